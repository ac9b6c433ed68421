/- The plain statement of the law LogsGrow: a root's square isn't above and the next one's is; logs and powers never fall where what they are of grows. No condition. -/
import Derived.Test.YtfipchhpnnjkeaaLogsLib
import Derived.Test.YtfipchhpnnjkeaaLogsCertLogs
namespace Go.Proofs.Ytfipchhpnnjkeaa.Pure
open Go.RowKit Go.Proofs.Ytfipchhpnnjkeaa.PLogs Go.Proofs.Ytfipchhpnnjkeaa.Num Go.Proofs.Ytfipchhpnnjkeaa.FixBaseLogs Go.Proofs.Ytfipchhpnnjkeaa.LogsBaseLogs Go.Proofs.Ytfipchhpnnjkeaa.LogsLib Go.Proofs.YtfipchhpnnjkeaaW.PrintWords Go.Proofs.YtfipchhpnnjkeaaW.PrintLast Go.Proofs.YtfipchhpnnjkeaaW.PrintMore
set_option linter.unusedVariables false

open Go.Proofs.Ytfipchhpnnjkeaa.LogsCertLogs
theorem Grow_j2 {p q : Int} {k : Nat} (hk : 20 ≤ k) : psalterylaw02_LogsGrow.j2 k p q false = some true := by
  obtain ⟨k, rfl⟩ : ∃ m, k = m + 1 := ⟨k - 1, by omega⟩
  simp only [psalterylaw02_LogsGrow.j2, Bool.false_eq_true, if_false]
  rw [Exp_eq p (by omega), Exp_eq q (by omega)]
  simp only [Option.bind_some]
  by_cases hp : -4096 ≤ p ∧ p ≤ 7680
  · by_cases hq : -4096 ≤ q ∧ q ≤ 7680
    · rw [if_pos hp, if_pos hq]
      simp only [if_true]
      by_cases g : p > q
      · rw [if_pos g]
      · rw [if_neg g, decide_eq_true (expV_mono hp.1 (by omega) hq.2)]
    · rw [if_pos hp, if_neg hq]; rfl
  · rw [if_neg hp]; rfl
theorem Grow_j1 {a p q x e : Int} (h0 : 0 ≤ a) (h1 : a ≤ 18446744073709551615) (hx : (x, e) = if a = 0 then (0, 1) else (logV a, 0)) {k : Nat} (hk : 30 ≤ k) : psalterylaw02_LogsGrow.j1 k a p q x e false = some true := by
  obtain ⟨k, rfl⟩ : ∃ m, k = m + 1 := ⟨k - 1, by omega⟩
  simp only [psalterylaw02_LogsGrow.j1, Bool.false_eq_true, if_false]
  by_cases ha : a = 0
  · rw [if_pos ha] at hx
    obtain ⟨rfl, rfl⟩ := Prod.mk.inj hx
    rw [if_neg (by decide)]; exact Grow_j2 (by omega)
  · rw [if_neg ha] at hx
    obtain ⟨rfl, rfl⟩ := Prod.mk.inj hx
    have r := logV_range (n := a) (by omega) h1
    have d := logV_div (n := a) (by omega)
    rw [if_pos rfl, if_neg (by omega), Bits_eq h0 h1 (by omega)]
    simp only [Option.bind_some]
    rw [w64 (a := logV a) (by omega) (by omega), Int.tdiv_eq_ediv_of_nonneg r.1, d, bne_self_eq_false]
    exact Grow_j2 (by omega)
theorem Grow_j0 {a b p q : Int} (h0 : 0 ≤ a) (h1 : a ≤ 18446744073709551615) (g0 : 0 ≤ b) (g1 : b ≤ 18446744073709551615) {k : Nat} (hk : 50 ≤ k) : psalterylaw02_LogsGrow.j0 k a b p q false = some true := by
  obtain ⟨k, rfl⟩ : ∃ m, k = m + 1 := ⟨k - 1, by omega⟩
  simp only [psalterylaw02_LogsGrow.j0, Bool.false_eq_true, if_false]
  rw [Log_eq h0 h1 (by omega), Log_eq g0 g1 (by omega)]
  simp only [Option.bind_some]
  by_cases ha : a = 0
  · subst ha
    rw [if_pos rfl]
    have e : (((1 : Int) == 0) != decide ((0 : Int) > 0)) = false := by decide
    simp only [e, Bool.false_eq_true, if_false]
    rw [if_neg (by decide)]
    exact Grow_j1 (by decide) (by decide) (by rw [if_pos rfl]) (by omega)
  · rw [if_neg ha]
    have e : (((0 : Int) == 0) != decide (a > 0)) = false := by rw [decide_eq_true (show a > 0 by omega)]; rfl
    have hx : (logV a, (0 : Int)) = if a = 0 then (0, 1) else (logV a, 0) := by rw [if_neg ha]
    simp only [e, Bool.false_eq_true, if_false, if_true]
    by_cases hb : b = 0
    · rw [if_pos hb, if_neg (by decide)]
      exact Grow_j1 h0 h1 hx (by omega)
    · rw [if_neg hb]
      simp only [if_true]
      by_cases g : a ≤ b
      · have m := logV_mono (a := a) (by omega) g
        rw [if_pos g, decide_eq_false (by omega)]
        exact Grow_j1 h0 h1 hx (by omega)
      · rw [if_neg g]; exact Grow_j1 h0 h1 hx (by omega)
theorem LogsGrow : psalterylaw02_LogsGrow.Pure := by
  intro a b p q ha hb hp hq
  have ha := u64_of ha
  have hb := u64_of hb
  refine ⟨100, ?_⟩
  unfold psalterylaw02_LogsGrow.f
  obtain ⟨r, hr, ⟨r0, r1, r2⟩, r3⟩ := Root_eq (k := 100) ha.1 ha.2 (by decide)
  rw [alive_eq (by decide), hr]
  simp only [Option.bind_some, if_true]
  have sq := Int.mul_nonneg r0 r0
  rw [wu64 (a := r) (by omega) (by omega), wu64 (a := r * r) (by omega) (by omega), if_neg (by omega)]
  by_cases g : r < 4294967295
  · have p := mul_abs (a := r + 1) (b := r + 1) (A := 4294967295) (B := 4294967295) (by omega) (by omega) (by omega) (by omega)
    rw [if_pos g, wu64 (a := r + 1) (by omega) (by omega), wu64 (by omega) (by omega), decide_eq_false (by omega)]
    exact Grow_j0 ha.1 ha.2 hb.1 hb.2 (by decide)
  · rw [if_neg g]; exact Grow_j0 ha.1 ha.2 hb.1 hb.2 (by decide)

end Go.Proofs.Ytfipchhpnnjkeaa.Pure
