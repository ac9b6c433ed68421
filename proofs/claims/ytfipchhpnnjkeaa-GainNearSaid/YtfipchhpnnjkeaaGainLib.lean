/- Steps of gains, lines in steps: the functions of gain and psalteryref19 as plain functions. -/
import Derived.Test.YtfipchhpnnjkeaaRefLogsGain
namespace Go.Proofs.Ytfipchhpnnjkeaa.GainLib
open Go.RowKit Go.Proofs.Ytfipchhpnnjkeaa.PGain Go.Proofs.Ytfipchhpnnjkeaa.Num Go.Proofs.Ytfipchhpnnjkeaa.FixBaseGain Go.Proofs.Ytfipchhpnnjkeaa.LogsBaseGain Go.Proofs.Ytfipchhpnnjkeaa.RefLogsGain Go.Proofs.YtfipchhpnnjkeaaW.PrintWords Go.Proofs.YtfipchhpnnjkeaaW.PrintLast Go.Proofs.YtfipchhpnnjkeaaW.PrintMore
set_option linter.unusedSimpArgs false
set_option linter.unusedVariables false

theorem step_pos : ∀ g : Fin 241, 4 ≤ expV (32 * (g.val : Int)) := by decide +kernel
theorem step_range {g : Int} (h0 : 0 ≤ g) (h1 : g ≤ 240) : 4 ≤ expV (32 * g) ∧ expV (32 * g) ≤ 140737488355327 := by
  have a := step_pos ⟨g.toNat, by omega⟩
  simp only [Int.toNat_of_nonneg h0] at a
  exact ⟨a, (expV_range (q := 32 * g) (by omega) (by omega)).2⟩
/-- The step of a gain; 0: it is none. -/
def stepV (g : Int) : Int := if 0 ≤ g ∧ g ≤ 240 then expV (32 * g) else 0
theorem Step_eq (g : Int) {k : Nat} (hk : 10 ≤ k) : gain_Step.f k g = some (if 0 ≤ g ∧ g ≤ 240 then (expV (32 * g), 0) else (0, 1)) := by
  unfold gain_Step.f
  by_cases h1 : g < 0
  · rw [if_pos h1, if_neg (by omega)]
  · rw [if_neg h1]
    by_cases h2 : g > 240
    · rw [if_pos h2, if_neg (by omega)]
    · rw [if_neg h2, if_pos (by omega), w64 (a := 32 * g) (by omega) (by omega), w32 (by omega) (by omega), Exp_eq _ hk, if_pos (by omega)]; rfl
theorem rStep_eq (g : Int) {k : Nat} (hk : 50 ≤ k) : psalteryref19_Step.f k g = some (stepV g) := by
  unfold psalteryref19_Step.f stepV
  by_cases h1 : g < 0
  · rw [if_pos h1, if_neg (by omega)]
  · rw [if_neg h1]
    by_cases h2 : g > 240
    · rw [if_pos h2, if_neg (by omega)]
    · have r := step_range (g := g) (by omega) (by omega)
      rw [if_neg h2, if_pos (by omega), w64 (a := g * 32) (by omega) (by omega), w32 (by omega) (by omega), rExp_eq _ hk, if_pos (by omega)]
      simp only [Option.bind_some]
      rw [show g * 32 = 32 * g by omega, w64 (by omega) (by omega)]
/-- A size in steps. -/
def inSteps (s v : Int) : Int := if v < 0 then -min ((max v (-v) * 65536 + 3 * s / 8) / s) 32767 else min ((max v (-v) * 65536 + 3 * s / 8) / s) 32767
theorem steps_range {s v : Int} (hs : 4 ≤ s) (hs2 : s ≤ 140737488355327) (h1 : -2147483648 ≤ v) (h2 : v ≤ 2147483647) : 0 ≤ (max v (-v) * 65536 + 3 * s / 8) / s ∧ (max v (-v) * 65536 + 3 * s / 8) / s ≤ 200000000000000 ∧ max v (-v) * 65536 + 3 * s / 8 ≤ 200000000000000 := by
  have a : 0 ≤ max v (-v) ∧ max v (-v) ≤ 2147483648 := by omega
  have b := ediv_range (n := max v (-v) * 65536 + 3 * s / 8) (p := s) (lo := 0) (hi := 200000000000000) (by omega) (by decide) (by decide) (by omega) (by omega)
  omega
theorem inSteps_range {s v : Int} (hs : 4 ≤ s) (hs2 : s ≤ 140737488355327) (h1 : -2147483648 ≤ v) (h2 : v ≤ 2147483647) : -32767 ≤ inSteps s v ∧ inSteps s v ≤ 32767 := by
  have a := steps_range hs hs2 h1 h2
  unfold inSteps
  split <;> omega
theorem size32_eq {v : Int} (h1 : -2147483648 ≤ v) (h2 : v ≤ 2147483647) : gain_size_int32.f v = some (max v (-v)) := by
  unfold gain_size_int32.f mx
  rw [w64 (by omega) (by omega), w64 (by omega) (by omega)]
  split <;> exact congrArg some (by omega)
/-- A list each of whose elements is told by f of the other's. -/
def Maps (f : Int → Int) (l r : List Int) : Prop := r.length = l.length ∧ ∀ i : Int, 0 ≤ i → i < l.length → rd r i = f (rd l i)
theorem Maps.unique {f : Int → Int} {l r s : List Int} (h : Maps f l r) (g : Maps f l s) : r = s :=
  ext_rd (h.1.trans g.1.symm) fun i h0 h1 => by rw [h.2 i h0 (by have := h.1; omega), g.2 i h0 (by have := h.1; omega)]
def Lines (l : List Int) : Prop := ∀ x ∈ l, -2147483648 ≤ x ∧ x ≤ 2147483647
theorem Quantise_l0 {x : List Int} (hx : Lines x) (hl : x.length ≤ 120) {s : Int} (hs : 4 ≤ s) (hs2 : s ≤ 140737488355327) (d : Nat) : ∀ (k : Nat) (out : List Int) (i : Int), 0 ≤ i → i ≤ x.length → (x.length : Int) - i = d → d < k → out.length = x.length → (∀ j : Int, 0 ≤ j → j < i → rd out j = inSteps s (rd x j)) →
    ∃ r, gain_Quantise.l0 k s out x (x.length : Int) i = some (r, 0) ∧ Maps (inSteps s) x r := by
  induction d with
  | zero =>
    intro k out i i0 i1 hd hk ho hj
    obtain ⟨k, rfl⟩ : ∃ m, k = m + 1 := ⟨k - 1, by omega⟩
    simp only [gain_Quantise.l0]
    rw [if_neg (by omega)]
    exact ⟨out, rfl, ho, fun j a b => hj j a (by omega)⟩
  | succ d ih =>
    intro k out i i0 i1 hd hk ho hj
    obtain ⟨k, rfl⟩ : ∃ m, k = m + 1 := ⟨k - 1, by omega⟩
    have v := rd_all hx i0 (show i < x.length by omega)
    have st := steps_range hs hs2 v.1 v.2
    have val : (gain_signed_int32.f (mn (wrap64 (Int.tdiv (wrap64 ((wrap64 (max (rd x i) (-(rd x i)) * 65536)) + (wrap64 (Int.tdiv (wrap64 (3 * s)) 8)))) s)) 32767) (rd x i)) = some (inSteps s (rd x i)) := by
      rw [w64 (a := max _ _ * 65536) (by omega) (by omega), w64 (a := 3 * s) (by omega) (by omega), Int.tdiv_eq_ediv_of_nonneg (show 0 ≤ 3 * s by omega), w64 (a := 3 * s / 8) (by omega) (by omega), w64 (a := max _ _ * 65536 + 3 * s / 8) (by omega) (by omega), Int.tdiv_eq_ediv_of_nonneg (by omega), w64 (by omega) (by omega)]
      unfold gain_signed_int32.f inSteps
      have e : mn ((max (rd x i) (-(rd x i)) * 65536 + 3 * s / 8) / s) 32767 = min ((max (rd x i) (-(rd x i)) * 65536 + 3 * s / 8) / s) 32767 := by unfold mn; split <;> omega
      rw [e]
      split
      · rw [w64 (by omega) (by omega)]
      · rfl
    simp only [gain_Quantise.l0]
    rw [if_pos (by omega), if_pos i0, if_pos (by omega), size32_eq v.1 v.2]; simp only [Option.bind_some]
    rw [if_neg (by omega), val]; simp only [Option.bind_some]
    rw [if_pos (by omega), w64 (by omega) (by omega)]
    refine ih k _ (i + 1) (by omega) (by omega) (by omega) (by omega) (by rw [List.length_set]; exact ho) fun j a b => ?_
    rw [rd_set i0 (by omega) a]
    split
    · rename_i e; rw [e]
    · exact hj j a (by omega)
theorem Quantise_eq {x : List Int} (hx : Lines x) (g : Int) {k : Nat} (hk : 140 ≤ k) :
    (x.length > 120 ∧ gain_Quantise.f k x g = some ([], 2)) ∨ (x.length ≤ 120 ∧ ¬ (0 ≤ g ∧ g ≤ 240) ∧ gain_Quantise.f k x g = some ([], 1)) ∨
    (x.length ≤ 120 ∧ (0 ≤ g ∧ g ≤ 240) ∧ ∃ r, gain_Quantise.f k x g = some (r, 0) ∧ Maps (inSteps (expV (32 * g))) x r) := by
  unfold gain_Quantise.f
  by_cases hl : (x.length : Int) > 120
  · rw [if_pos hl]; exact .inl ⟨by omega, rfl⟩
  · rw [if_neg hl, Step_eq g (by omega)]; simp only [Option.bind_some]
    by_cases hg : 0 ≤ g ∧ g ≤ 240
    · have r := step_range hg.1 hg.2
      rw [if_pos hg]; simp only [if_true]
      rw [if_pos (show (0 : Int) ≤ (x.length : Int) by omega), if_pos (by omega), w64 (by omega) (by omega), Int.toNat_natCast]
      exact .inr (.inr ⟨by omega, hg, Quantise_l0 hx (by omega) r.1 r.2 x.length k _ 0 (by decide) (by omega) (by omega) (by omega) (by simp) (fun j a b => by omega)⟩)
    · rw [if_neg hg, if_neg (by decide)]; exact .inr (.inl ⟨by omega, hg, rfl⟩)
theorem rabs_eq {v : Int} (h1 : -2147483648 ≤ v) (h2 : v ≤ 2147483647) : psalteryref19_abs.f v = some (max v (-v)) := by
  unfold psalteryref19_abs.f
  split
  · rw [w64 (by omega) (by omega)]; exact congrArg some (by omega)
  · exact congrArg some (by omega)
theorem rQuantise_l0 {x : List Int} (hx : Lines x) (hl : x.length ≤ 120) {s : Int} (hs : 4 ≤ s) (hs2 : s ≤ 140737488355327) (d : Nat) : ∀ (k : Nat) (out : List Int) (i : Int), 0 ≤ i → i ≤ x.length → (x.length : Int) - i = d → d < k → (out.length : Int) = i → (∀ j : Int, 0 ≤ j → j < i → rd out j = inSteps s (rd x j)) →
    ∃ r, psalteryref19_Quantise.l0 k x s out i = some r ∧ Maps (inSteps s) x r := by
  induction d with
  | zero =>
    intro k out i i0 i1 hd hk ho hj
    obtain ⟨k, rfl⟩ : ∃ m, k = m + 1 := ⟨k - 1, by omega⟩
    simp only [psalteryref19_Quantise.l0]
    rw [if_neg (by omega)]
    exact ⟨out, rfl, by omega, fun j a b => hj j a (by omega)⟩
  | succ d ih =>
    intro k out i i0 i1 hd hk ho hj
    obtain ⟨k, rfl⟩ : ∃ m, k = m + 1 := ⟨k - 1, by omega⟩
    have v := rd_all hx i0 (show i < x.length by omega)
    have st := steps_range hs hs2 v.1 v.2
    have next : ∃ r, psalteryref19_Quantise.l0 k x s (out ++ [inSteps s (rd x i)]) (i + 1) = some r ∧ Maps (inSteps s) x r := by
      refine ih k _ (i + 1) (by omega) (by omega) (by omega) (by omega) (by rw [List.length_append, List.length_singleton]; omega) fun j a b => ?_
      rw [rd_snoc a (by omega)]
      by_cases e : j = out.length
      · rw [if_pos e, e, ho]
      · rw [if_neg e]; exact hj j a (by omega)
    unfold inSteps at next
    simp only [psalteryref19_Quantise.l0]
    rw [if_pos (by omega), if_pos i0, w64 (a := rd x i) (by omega) (by omega), rabs_eq v.1 v.2]; simp only [Option.bind_some]
    rw [if_neg (by omega), w64 (a := max _ _ * 65536) (by omega) (by omega), w64 (a := s * 3) (by omega) (by omega), Int.tdiv_eq_ediv_of_nonneg (show 0 ≤ s * 3 by omega), show s * 3 = 3 * s by omega, w64 (a := 3 * s / 8) (by omega) (by omega), w64 (a := max _ _ * 65536 + 3 * s / 8) (by omega) (by omega), Int.tdiv_eq_ediv_of_nonneg (by omega)]
    rw [w64 (a := _ / s) (by omega) (by omega), w64 (a := i + 1) (by omega) (by omega)]
    generalize (max (rd x i) (-(rd x i)) * 65536 + 3 * s / 8) / s = n at *
    have hlt : out.length < 17592186044416 := by omega
    by_cases g : n > 32767
    · rw [if_pos g]
      rw [show min n 32767 = 32767 by omega] at next
      by_cases c : rd x i < 0
      · rw [if_pos c] at next ⊢; rw [if_pos hlt]; exact next
      · rw [if_neg c] at next ⊢; rw [if_pos hlt]; exact next
    · rw [if_neg g]
      rw [show min n 32767 = n by omega] at next
      by_cases c : rd x i < 0
      · rw [if_pos c] at next ⊢; rw [if_pos hlt, w64 (a := -n) (by omega) (by omega)]; exact next
      · rw [if_neg c] at next ⊢; rw [if_pos hlt]; exact next
theorem rQuantise_eq {x : List Int} (hx : Lines x) (hl : x.length ≤ 120) {g : Int} (h0 : 0 ≤ g) (h1 : g ≤ 240) {k : Nat} (hk : 140 ≤ k) : ∃ r, psalteryref19_Quantise.f k x g = some r ∧ Maps (inSteps (expV (32 * g))) x r := by
  have r := step_range h0 h1
  unfold psalteryref19_Quantise.f
  rw [rStep_eq g (by omega)]; simp only [Option.bind_some]
  unfold stepV
  rw [if_pos (by omega)]
  exact rQuantise_l0 hx hl r.1 r.2 x.length k [] 0 (by decide) (by omega) (by omega) (by omega) rfl (fun j a b => by omega)
theorem Same_l0 {a : List Int} (hl : a.length ≤ 1000) (d : Nat) : ∀ (k : Nat) (i : Int), 0 ≤ i → i ≤ a.length → (a.length : Int) - i = d → d < k → psalteryref19_Same.l0 k a a i = some true := by
  induction d with
  | zero =>
    intro k i i0 i1 hd hk
    obtain ⟨k, rfl⟩ : ∃ m, k = m + 1 := ⟨k - 1, by omega⟩
    simp only [psalteryref19_Same.l0]
    rw [if_neg (by omega)]
  | succ d ih =>
    intro k i i0 i1 hd hk
    obtain ⟨k, rfl⟩ : ∃ m, k = m + 1 := ⟨k - 1, by omega⟩
    simp only [psalteryref19_Same.l0]
    rw [if_pos (by omega), if_pos i0, if_pos (by omega), if_true, w64 (by omega) (by omega)]
    exact ih k (i + 1) (by omega) (by omega) (by omega) (by omega)
theorem Same_eq {a : List Int} (hl : a.length ≤ 1000) {k : Nat} (hk : a.length < k) : psalteryref19_Same.f k a a = some true := by
  unfold psalteryref19_Same.f
  rw [if_pos rfl]
  exact Same_l0 hl a.length k 0 (by decide) (by omega) (by omega) hk
theorem exp256 : expV (32 * 8) = 131072 := by decide +kernel
theorem two8 : inSteps (expV (32 * 8)) 2 = 1 := by decide +kernel
theorem alive_eq {k : Nat} (hk : 150 ≤ k) : psalterylaw19_alive.f k = some true := by
  unfold psalterylaw19_alive.f
  have hx : Lines [2] := by intro x hx; rw [List.mem_singleton.1 hx]; decide
  rcases Quantise_eq hx 8 (k := k) (by omega) with ⟨a, _⟩ | ⟨_, a, _⟩ | ⟨_, _, r, hr, hm⟩
  · exact absurd a (by decide)
  · exact absurd (show (0 : Int) ≤ 8 ∧ (8 : Int) ≤ 240 by decide) a
  · rw [Step_eq 8 (by omega), Step_eq 241 (by omega), hr, exp256]
    have h0 := hm.2 0 (by decide) (by decide)
    rw [show rd [2] 0 = 2 from rfl, two8] at h0
    have hl : r.length = 1 := hm.1
    simp only [Option.bind_some, if_pos (show (0 : Int) ≤ 8 ∧ (8 : Int) ≤ 240 by decide), if_neg (show ¬ ((0 : Int) ≤ 241 ∧ (241 : Int) ≤ 240) by decide), if_true, hl, h0]
    decide
theorem far_nil {x : List Int} : psalterylaw19_far.f x [] = some (decide (x.length > 300)) := by
  unfold psalterylaw19_far.f
  by_cases h : (x.length : Int) > 300
  · rw [if_pos h, decide_eq_true (by omega)]
  · rw [if_neg h, decide_eq_false (by decide), decide_eq_false (by omega)]
end Go.Proofs.Ytfipchhpnnjkeaa.GainLib
