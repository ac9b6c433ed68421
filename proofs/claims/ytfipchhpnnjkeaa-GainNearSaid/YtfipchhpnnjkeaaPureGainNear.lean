/- The plain statement of the law GainNear: a line that isn't cut is at most one step from what is restored of it. No condition. -/
import Derived.Test.YtfipchhpnnjkeaaGainRest
namespace Go.Proofs.Ytfipchhpnnjkeaa.Pure
open Go.RowKit Go.Proofs.Ytfipchhpnnjkeaa.PGain Go.Proofs.Ytfipchhpnnjkeaa.Num Go.Proofs.Ytfipchhpnnjkeaa.FixBaseGain Go.Proofs.Ytfipchhpnnjkeaa.LogsBaseGain Go.Proofs.Ytfipchhpnnjkeaa.RefLogsGain Go.Proofs.Ytfipchhpnnjkeaa.GainLib Go.Proofs.Ytfipchhpnnjkeaa.GainRest Go.Proofs.YtfipchhpnnjkeaaW.PrintWords Go.Proofs.YtfipchhpnnjkeaaW.PrintLast Go.Proofs.YtfipchhpnnjkeaaW.PrintMore
set_option linter.unusedVariables false

theorem bits_snoc {r : List Int} {v : Int} (h : Bits r 0) (hv : v = 0 ∨ v = 1) : Bits (r ++ [v]) 0 := fun j a b => by
  rw [List.length_append, List.length_singleton] at b
  rw [rd_snoc a (by omega)]
  split
  · exact hv
  · exact h j a (by omega)
theorem rests_l0 {x q : List Int} (hl : q.length ≤ 120) (hx : x.length = q.length) {room s : Int} (d : Nat) : ∀ (k : Nat) (i : Int) (out : List Int), 2 * d < k → 0 ≤ i → i ≤ q.length → (q.length : Int) - i = d → (out.length : Int) ≤ i → Bits out 0 →
    ∃ r, gain_Rests.l0 k x room s out q (q.length : Int) i = some (r, 0) ∧ Bits r 0 ∧ (r.length : Int) ≤ out.length + nz q d i := by
  induction d with
  | zero =>
    intro k i out hk i0 i1 hd ho hb
    obtain ⟨k, rfl⟩ : ∃ m, k = m + 1 := ⟨k - 1, by omega⟩
    simp only [gain_Rests.l0, nz]
    rw [if_neg (by omega)]
    exact ⟨out, rfl, hb, by omega⟩
  | succ d ih =>
    intro k i out hk i0 i1 hd ho hb
    obtain ⟨m_, rfl⟩ : ∃ m, k = m + 1 := ⟨k - 1, by omega⟩
    obtain ⟨k, hm_⟩ : ∃ m, m_ = m + 1 := ⟨m_ - 1, by omega⟩
    simp only [gain_Rests.l0, nz]
    subst hm_
    rw [if_pos (by omega), if_pos i0, if_pos (by omega)]
    have w1 : wrap64 (i + 1) = i + 1 := w64 (by omega) (by omega)
    have n0 := nz_range q d (i + 1)
    have skip : ∀ b, b = true → ∃ r, gain_Rests.j3 (k + 1) x room s out i (rd q i) q (q.length : Int) i b = some (r, 0) ∧ Bits r 0 ∧ (r.length : Int) ≤ out.length + ((if rd q i = 0 then 0 else 1) + nz q d (i + 1)) := fun b h => by
      subst h
      simp only [gain_Rests.j3, if_true, w1]
      obtain ⟨r, a, b, c⟩ := ih k (i + 1) out (by omega) (by omega) (by omega) (by omega) (by omega) hb
      exact ⟨r, a, b, by split <;> omega⟩
    by_cases e : rd q i = 0
    · rw [if_pos e]; exact skip _ rfl
    · rw [if_neg e]
      by_cases e2 : (out.length : Int) = room
      · exact skip _ (by rw [e2]; exact beq_self_eq_true _)
      · rw [show ((out.length : Int) == room) = false from beq_eq_false_iff_ne.2 e2]
        have put : ∀ v, v = 0 ∨ v = 1 → ∃ r, gain_Rests.l0 k x room s (out ++ [v]) q (q.length : Int) (i + 1) = some (r, 0) ∧ Bits r 0 ∧ (r.length : Int) ≤ out.length + ((if rd q i = 0 then 0 else 1) + nz q d (i + 1)) := fun v hv => by
          obtain ⟨r, a, b, c⟩ := ih k (i + 1) (out ++ [v]) (by omega) (by omega) (by omega) (by omega) (by rw [List.length_append, List.length_singleton]; omega) (bits_snoc hb hv)
          rw [List.length_append, List.length_singleton] at c
          exact ⟨r, a, b, by rw [if_neg e]; omega⟩
        simp only [gain_Rests.j3, Bool.false_eq_true, if_false]
        unfold gain_size_int32.f gain_size_int.f
        rw [if_pos i0, if_pos (by omega)]
        simp only [Option.bind_some]
        rw [w1]
        by_cases c : wrap64 (mx (wrap64 (rd x i)) (wrap64 (-(wrap64 (rd x i)))) * 65536) ≥ wrap64 (mx (rd q i) (wrap64 (-(rd q i))) * s)
        · rw [if_pos c, if_pos (by omega)]; exact put 1 (.inr rfl)
        · rw [if_neg c, if_pos (by omega)]; exact put 0 (.inl rfl)
theorem near {x s a : Int} (h1 : -2147483648 ≤ x) (h2 : x ≤ 2147483647) (hs : 4 ≤ s) (n1 : inSteps s x ≠ 0) (n2 : inSteps s x ≠ 32767) (n3 : inSteps s x ≠ -32767)
    (a1 : max (inSteps s x) (-(inSteps s x)) * s - s / 4 ≤ a) (a2 : a ≤ max (inSteps s x) (-(inSteps s x)) * s + s / 4) :
    (sat32 (if inSteps s x < 0 then -rnd a 16 else rnd a 16) - x) * 65536 ≤ s + 32768 ∧ -(s + 32768) ≤ (sat32 (if inSteps s x < 0 then -rnd a 16 else rnd a 16) - x) * 65536 := by
  have r : rnd a 16 = (a / 32768 + 1) / 2 := by unfold rnd; rw [if_neg (by decide)]; rfl
  have n0 : 0 ≤ (max x (-x) * 65536 + 3 * s / 8) / s := Int.ediv_nonneg (by omega) (by omega)
  have p1 := Int.ediv_mul_le (max x (-x) * 65536 + 3 * s / 8) (show s ≠ 0 by omega)
  have p2 := Int.lt_ediv_add_one_mul_self (max x (-x) * 65536 + 3 * s / 8) (show 0 < s by omega)
  rw [Int.add_mul, Int.one_mul] at p2
  have q : max (inSteps s x) (-(inSteps s x)) = (max x (-x) * 65536 + 3 * s / 8) / s ∧ (inSteps s x < 0 ↔ x < 0) := by
    unfold inSteps at n1 n2 n3 ⊢
    generalize (max x (-x) * 65536 + 3 * s / 8) / s = n at *
    by_cases c : x < 0
    · rw [if_pos c] at n1 n2 n3 ⊢; omega
    · rw [if_neg c] at n1 n2 n3 ⊢; omega
  rw [q.1] at a1 a2
  generalize (max x (-x) * 65536 + 3 * s / 8) / s * s = P at *
  rw [r]
  have c : (if inSteps s x < 0 then -((a / 32768 + 1) / 2) else (a / 32768 + 1) / 2) = (if x < 0 then -((a / 32768 + 1) / 2) else (a / 32768 + 1) / 2) := by
    by_cases c : x < 0
    · rw [if_pos c, if_pos (q.2.2 c)]
    · rw [if_neg c, if_neg (fun h => c (q.2.1 h))]
  rw [c]
  unfold sat32 clip
  by_cases c : x < 0
  · rw [if_pos c]; split
    · omega
    · split <;> omega
  · rw [if_neg c]; split
    · omega
    · split <;> omega
theorem Near_l0 {x q y : List Int} (hx : Lines x) (hl : x.length ≤ 120) {s : Int} (hs : 4 ≤ s) (hs2 : s ≤ 140737488355327) (hq : Maps (inSteps s) x q) (ht : GainRest.Told s q y) (hy : y.length = x.length) (d : Nat) : ∀ (k : Nat) (i : Int), 2 * d < k → 0 ≤ i → i ≤ x.length → (x.length : Int) - i = d → psalterylaw19_GainNear.l0 k x q y s i = some true := by
  have lq := hq.1
  induction d with
  | zero =>
    intro k i hk i0 i1 hd
    obtain ⟨k, rfl⟩ : ∃ m, k = m + 1 := ⟨k - 1, by omega⟩
    simp only [psalterylaw19_GainNear.l0]
    rw [if_neg (by omega)]
  | succ d ih =>
    intro k i hk i0 i1 hd
    obtain ⟨m_, rfl⟩ : ∃ m, k = m + 1 := ⟨k - 1, by omega⟩
    obtain ⟨k, hm_⟩ : ∃ m, m_ = m + 1 := ⟨m_ - 1, by omega⟩
    simp only [psalterylaw19_GainNear.l0]
    subst hm_
    have next := ih k (i + 1) (by omega) (by omega) (by omega) (by omega)
    have w1 : wrap64 (i + 1) = i + 1 := w64 (by omega) (by omega)
    have skip : ∀ b, b = true → psalterylaw19_GainNear.j2 (k + 1) x q y s i b = some true := fun b h => by
      subst h; simp only [psalterylaw19_GainNear.j2, if_true, w1]; exact next
    rw [if_pos (by omega), if_pos i0, if_pos (by omega)]
    by_cases e1 : rd q i = 0
    · rw [if_pos e1]; exact skip _ rfl
    · rw [if_neg e1]
      by_cases e2 : rd q i = 32767
      · rw [if_pos e2]; exact skip _ rfl
      · rw [if_neg e2]
        by_cases e3 : rd q i = -32767
        · exact skip _ (by rw [e3]; rfl)
        · rw [show (rd q i == -32767) = false from beq_eq_false_iff_ne.2 e3]
          simp only [psalterylaw19_GainNear.j2, Bool.false_eq_true, if_false, w1]
          have v := rd_all hx i0 (show i < x.length by omega)
          obtain ⟨a, a1, a2, h⟩ := ht i i0 (by omega) e1
          rw [hq.2 i i0 (by omega)] at e1 e2 e3 a1 a2 h
          have n := near v.1 v.2 hs e1 e2 e3 a1 a2
          have sr := sat32_range (if inSteps s (rd x i) < 0 then -rnd a 16 else rnd a 16)
          rw [← h] at n sr
          rw [if_pos i0, if_pos (by omega), if_pos (by omega), w64 (a := rd y i) (by omega) (by omega), w64 (a := rd x i) (by omega) (by omega), w64 (a := rd y i - rd x i) (by omega) (by omega), w64 (a := (rd y i - rd x i) * 65536) (by omega) (by omega), w64 (a := s) (by omega) (by omega), w64 (a := s + 32768) (by omega) (by omega), w64 (a := -(s + 32768)) (by omega) (by omega), if_neg (by omega), if_neg (by omega)]
          exact next
theorem GainNear : psalterylaw19_GainNear.Pure := by
  intro x g room noise _ _ hx hg _ _
  have hx : Lines x := fun y hy => i32_of (hx y hy)
  refine ⟨1000, ?_⟩
  unfold psalterylaw19_GainNear.f
  rw [alive_eq (by decide)]; simp only [Option.bind_some, if_true]
  rw [far_nil]; simp only [Option.bind_some]
  by_cases hf : x.length > 300
  · rw [decide_eq_true hf, if_pos rfl]
  · rw [decide_eq_false hf, if_neg Bool.false_ne_true]
    rcases Quantise_eq hx g (k := 1000) (by decide) with ⟨a, b⟩ | ⟨_, a, b⟩ | ⟨a, hg, q, hq, hm⟩
    · rw [b]; simp only [Option.bind_some]; rw [if_neg (by decide)]; rfl
    · rw [b]; simp only [Option.bind_some]; rw [if_neg (by decide)]; rfl
    · rw [hq]; simp only [Option.bind_some, if_true]
      have sr := step_range hg.1 hg.2
      have lq := hm.1
      have sm : Small q 0 := fun j j0 j1 => by
        have v := rd_all hx j0 (show j < x.length by omega)
        rw [hm.2 j j0 (by omega)]; exact inSteps_range sr.1 sr.2 v.1 v.2
      obtain ⟨l, hr, hb, hc⟩ := rests_l0 (x := x) (q := q) (by omega) (by omega) (room := mx room 0) (s := expV (32 * g)) q.length 998 0 [] (by omega) (by decide) (by omega) (by omega) (by decide) (fun j a b => by simp at b; omega)
      have nr := nz_range q q.length 0
      rw [show (([] : List Int).length : Int) = 0 from rfl, Int.zero_add] at hc
      have rests : gain_Rests.f 1000 x q g (mx room 0) = some (l, 0) := by
        unfold gain_Rests.f
        rcases may_eq x.length q g (k := 1000) (by decide) with ⟨_, _, _, _, _, m, _⟩ | ⟨h, _⟩
        · rw [m]; simp only [Option.bind_some, if_true]
          rw [decide_eq_false (show ¬ mx room 0 < 0 by unfold mx; split <;> omega)]
          simp only [gain_Rests.j0, gain_Rests.j1, Bool.false_eq_true, if_false, if_true]
          exact hr
        · exact absurd ⟨by omega, by omega, hg, by omega, sm⟩ h
      rw [rests]; simp only [Option.bind_some]
      have nn : 0 ≤ mn (mx noise 0) 7 ∧ mn (mx noise 0) 7 ≤ 7 := by unfold mn mx; (repeat' split) <;> omega
      obtain ⟨y, e, h1, _, _, h4⟩ := restore_eq (q := q) (rests := l) (by omega) g (mn (mx noise 0) 7) (q.length : Int)
      obtain ⟨rfl, h5, h6⟩ := h4 (by omega) hg sm hb ⟨hc, nn.1, nn.2, by omega, Int.le_refl _⟩
      rw [h1, Step_eq g (by decide)]; simp only [Option.bind_some]
      rw [if_pos hg]; simp only [if_true]
      rw [show ((y.length : Int) != (x.length : Int)) = false by simp [h5, lq]]
      simp only [psalterylaw19_GainNear.j0, Bool.false_eq_true, if_false]
      exact Near_l0 hx a sr.1 sr.2 hm h6 (by omega) x.length 999 0 (by omega) (by decide) (by omega) (by omega)

end Go.Proofs.Ytfipchhpnnjkeaa.Pure
