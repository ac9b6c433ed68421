/- Powers of two in 256th parts: they never fall, and their logs are near: at each of the 11,777 exponents, reckoned by the kernel. -/
import Derived.Test.YtfipchhpnnjkeaaLogsBaseLogs
namespace Go.Proofs.Ytfipchhpnnjkeaa.LogsCertLogs
open Go.RowKit Go.Proofs.Ytfipchhpnnjkeaa.Num Go.Proofs.Ytfipchhpnnjkeaa.LogsBaseLogs
set_option linter.unusedVariables false

def upto (p : Int → Bool) : Nat → Bool
  | 0 => true
  | n + 1 => p ((n : Int) - 4096) && upto p n
theorem upto_at {p : Int → Bool} {n : Nat} (h : upto p n = true) : ∀ q : Int, -4096 ≤ q → q < (n : Int) - 4096 → p q = true := by
  induction n with
  | zero => intro q h0 h1; omega
  | succ n ih =>
    simp only [upto, Bool.and_eq_true] at h
    intro q h0 h1
    by_cases e : q = (n : Int) - 4096
    · rw [e]; exact h.1
    · exact ih h.2 q h0 (by omega)
def grows (q : Int) : Bool := decide (expV q ≤ expV (q + 1))
def near (q : Int) : Bool := decide (expV q < 65536) || (decide (logV (expV q) - 4096 - q ≤ 2) && decide (-2 ≤ logV (expV q) - 4096 - q))
theorem all_grow : upto grows 11776 = true := by decide +kernel
theorem all_near : upto near 11777 = true := by decide +kernel
theorem expV_mono {p q : Int} (h0 : -4096 ≤ p) (h : p ≤ q) (h1 : q ≤ 7680) : expV p ≤ expV q := by
  obtain ⟨d, hd⟩ : ∃ d : Nat, q = p + d := ⟨(q - p).toNat, by omega⟩
  subst hd
  induction d with
  | zero => simp
  | succ d ih =>
    have a := ih (by omega) (by omega)
    have b := upto_at all_grow (p + d) (by omega) (by omega)
    unfold grows at b
    have c := of_decide_eq_true b
    have e : p + ((d + 1 : Nat) : Int) = p + d + 1 := by omega
    rw [e]; omega
theorem exp_near {q : Int} (h0 : -4096 ≤ q) (h1 : q ≤ 7680) (h : 65536 ≤ expV q) : logV (expV q) - 4096 - q ≤ 2 ∧ -2 ≤ logV (expV q) - 4096 - q := by
  have b := upto_at all_near q h0 (by omega)
  unfold near at b
  simp only [Bool.or_eq_true, Bool.and_eq_true, decide_eq_true_eq] at b
  omega
end Go.Proofs.Ytfipchhpnnjkeaa.LogsCertLogs
