/- Channels woven: pcm.Weave of one list or of two as long ones, as a plain function, for the key Pcm. -/
import Derived.Test.YtgmgdbcfgbgnlaaPPcmx0
import Derived.Test.YtgmgdbcfgbgnlaaPPcmx1
import Derived.Test.YtgmgdbcfgbgnlaaPPcmx2
import Derived.Test.YtgmgdbcfgbgnlaaPPcmx3
import Derived.Test.YtgmgdbcfgbgnlaaPPcmx4
import Derived.Test.YtgmgdbcfgbgnlaaPPcmx5
import Derived.Test.YtgmgdbcfgbgnlaaFill
namespace Go.Proofs.Ytgmgdbcfgbgnlaa.WeaveLibPcm
open Go.RowKit Go.Proofs.Ytgmgdbcfgbgnlaa.PPcm Go.Proofs.Ytgmgdbcfgbgnlaa.Num Go.Proofs.YtgmgdbcfgbgnlaaW.PrintWords Go.Proofs.YtgmgdbcfgbgnlaaW.PrintLast Go.Proofs.YtgmgdbcfgbgnlaaW.PrintMore
set_option linter.unusedVariables false
set_option linter.unusedSimpArgs false
/-- Sample q of channels, as many as c. -/
def weaveV (ls : List (List Int)) (q : Int) : Int := rd (rd_L1 ls (q % ls.length)) (q / ls.length)
theorem Weave_l1 {ls : List (List Int)} (hc : 1 ≤ ls.length) (hc2 : ls.length ≤ 2) (n : Nat) (hn : ∀ j : Int, 0 ≤ j → j < ls.length → (rd_L1 ls j).length = n) (hl : n ≤ 2000000) {i : Int} (i0 : 0 ≤ i) (i1 : i < n) (d : Nat) :
    ∀ (k : Nat) (out : List Int) (j : Int), 0 ≤ j → (ls.length : Int) - j = d → (out.length : Int) = i * ls.length + j → Upto (weaveV ls) out (i * ls.length + j) →
    ∃ out2, pcm_Weave.l1 (k + d + 1) ls out i (n : Int) i ls (ls.length : Int) j = pcm_Weave.l0 k ls out2 (n : Int) (i + 1) ∧ (out2.length : Int) = (i + 1) * ls.length ∧ Upto (weaveV ls) out2 ((i + 1) * ls.length) := by
  have em : (i + 1) * (ls.length : Int) = i * ls.length + ls.length := by rw [Int.add_mul, Int.one_mul]
  have pb := mul_abs (A := 2000000) (B := 2) (a := i) (b := (ls.length : Int)) (by omega) (by omega) (by omega) (by omega)
  induction d with
  | zero =>
    intro k out j j0 hd ho hu
    simp only [pcm_Weave.l1]
    rw [if_neg (by omega), w64 (by omega) (by omega)]
    have e : i * (ls.length : Int) + j = (i + 1) * ls.length := by omega
    rw [e] at ho hu
    exact ⟨out, rfl, ho, hu⟩
  | succ d ih =>
    intro k out j j0 hd ho hu
    obtain ⟨m, hm⟩ : ∃ m, m = k + d + 1 := ⟨_, rfl⟩
    rw [show k + (d + 1) + 1 = m + 1 by omega]
    simp only [pcm_Weave.l1]
    subst hm
    have hlj := hn j j0 (by omega)
    have hv : rd (rd_L1 ls j) i = weaveV ls (i * ls.length + j) := by
      unfold weaveV
      have e1 : (i * (ls.length : Int) + j) % ls.length = j := by rw [Int.add_comm, Int.add_mul_emod_self_right, Int.emod_eq_of_lt j0 (by omega)]
      have e2 : (i * (ls.length : Int) + j) / ls.length = i := by rw [Int.add_comm, Int.add_mul_ediv_right _ _ (by omega), Int.ediv_eq_zero_of_lt j0 (by omega)]; omega
      rw [e1, e2]
    rw [if_pos (by omega), if_pos j0, if_pos (by omega), if_pos i0, if_pos (by omega), if_pos (by omega), w64 (by omega) (by omega), hv]
    obtain ⟨out2, h1, h2, h3⟩ := ih k (out ++ [weaveV ls (i * ls.length + j)]) (j + 1) (by omega) (by omega) (by rw [len_snoc ho]; omega) (by rw [← Int.add_assoc]; exact hu.snoc (by omega) rfl)
    exact ⟨out2, h1, h2, h3⟩
theorem Weave_l0 {ls : List (List Int)} (hc : 1 ≤ ls.length) (hc2 : ls.length ≤ 2) (n : Nat) (hn : ∀ j : Int, 0 ≤ j → j < ls.length → (rd_L1 ls j).length = n) (hl : n ≤ 2000000) (d : Nat) :
    ∀ (k : Nat) (out : List Int) (i : Int), 0 ≤ i → (n : Int) - i = d → 4 * d < k → (out.length : Int) = i * ls.length → Upto (weaveV ls) out (i * ls.length) →
    ∃ r, pcm_Weave.l0 k ls out (n : Int) i = some (r, 0) ∧ Fills (n * ls.length) (weaveV ls) r := by
  induction d with
  | zero =>
    intro k out i i0 hd hk ho hu
    obtain ⟨k, rfl⟩ : ∃ m, k = m + 1 := ⟨k - 1, by omega⟩
    simp only [pcm_Weave.l0]
    rw [if_neg (by omega)]
    have e : i = (n : Int) := by omega
    subst e
    exact ⟨out, rfl, hu.fills (by exact_mod_cast ho) (by push_cast; omega)⟩
  | succ d ih =>
    intro k out i i0 hd hk ho hu
    obtain ⟨k, rfl⟩ : ∃ m, k = (m + ls.length + 1) + 1 := ⟨k - ls.length - 2, by omega⟩
    simp only [pcm_Weave.l0]
    rw [if_pos (by omega)]
    obtain ⟨out2, h1, h2, h3⟩ := Weave_l1 hc hc2 n hn hl i0 (by omega) ls.length k out 0 (by decide) (by omega) (by omega) (by rw [Int.add_zero]; exact hu)
    rw [h1]
    exact ih k out2 (i + 1) (by omega) (by omega) (by omega) h2 h3
/-- One channel or two as long ones. -/
theorem Weave_ok {ls : List (List Int)} (hc : 1 ≤ ls.length) (hc2 : ls.length ≤ 2) (n : Nat) (hn : ∀ j : Int, 0 ≤ j → j < ls.length → (rd_L1 ls j).length = n) (hl : n ≤ 2000000) {k : Nat} (hk : 4 * n + 1 < k) :
    ∃ r, pcm_Weave.f k ls = some (r, 0) ∧ Fills (n * ls.length) (weaveV ls) r := by
  obtain ⟨k, rfl⟩ : ∃ m, k = m + 1 := ⟨k - 1, by omega⟩
  unfold pcm_Weave.f
  have h0 := hn 0 (by omega) (by omega)
  have h1 := hn ((ls.length : Int) - 1) (by omega) (by omega)
  rw [if_neg (by omega), if_neg (by omega), if_pos (by omega), w64 (by omega) (by omega), if_pos (by omega), if_pos (by omega), h0, h1]
  rw [show (((n : Nat) : Int) != (n : Int)) = false by simp]
  simp only [pcm_Weave.j0]
  rw [if_neg Bool.false_ne_true, if_pos (by omega), h0]
  exact Weave_l0 hc hc2 n hn hl n k [] 0 (by decide) (by omega) (by omega) (by simp) (by rw [Int.zero_mul]; exact Upto.none _ _)
end Go.Proofs.Ytgmgdbcfgbgnlaa.WeaveLibPcm
