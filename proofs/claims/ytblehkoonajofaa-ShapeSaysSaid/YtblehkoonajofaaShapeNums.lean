/- Shape: what the energies, the edges and the logs of any lines come to, on both sides. -/
import Derived.Test.YtblehkoonajofaaShapeRefFind
import Derived.Test.YtblehkoonajofaaShapeBand
import Derived.Test.YtblehkoonajofaaRefLogsShape
namespace Go.Proofs.Ytblehkoonajofaa.PShape
open Go.RowKit Go.Proofs.YtblehkoonajofaaW.PrintWords Go.Proofs.YtblehkoonajofaaW.PrintLast Go.Proofs.YtblehkoonajofaaW.PrintMore Go.Proofs.Ytblehkoonajofaa.Num Go.Proofs.Ytblehkoonajofaa.ShapeBand Go.Proofs.Ytblehkoonajofaa.LogsBaseShape Go.Proofs.Ytblehkoonajofaa.RefLogsShape
set_option linter.unusedVariables false
set_option linter.unusedSimpArgs false
/-- The edges of a block. -/
def edE (x : List Int) : List Int := edgesV (x.length : Int)
/-- The energies of lines. -/
def enE (x : List Int) : List Int := enL x (edE x)
/-- The logs of the mean energies. -/
def qE (x : List Int) : List Int := (List.range 8).map fun i => logV ((enE x).getD i 0 / ((edE x).getD (i + 1) 0 - (edE x).getD i 0) + 1)
/-- Half of them. -/
def hE (x : List Int) : List Int := (qE x).map fun v => Int.tdiv v 2
/-- How loud the bands are. -/
def dD (x : List Int) : List Int := loudL (hE x)
theorem ed_gap (x : List Int) (he : edE x ≠ []) {i : Nat} (hi : i < 8) : 0 ≤ (edE x).getD i 0 ∧ 2 ≤ (edE x).getD (i + 1) 0 - (edE x).getD i 0 ∧ (edE x).getD (i + 1) 0 ≤ 120 := by
  unfold edE at he ⊢
  rcases edges_cases (x.length : Int) with h | h | h | h | ⟨_, h⟩
  · rw [h]; revert i; decide +kernel
  · rw [h]; revert i; decide +kernel
  · rw [h]; revert i; decide +kernel
  · rw [h]; revert i; decide +kernel
  · exact absurd h he
theorem en_at (x : List Int) {i : Nat} (hi : i < 8) : (enE x).getD i 0 = dE x (edE x) i := by
  have h := rd_enL x (edE x) (b := (i : Int)) (by omega) (by omega)
  rw [← h, rd, Int.toNat_natCast]; rfl
theorem en_range (x : List Int) (hx : Lines x) (he : edE x ≠ []) (i : Nat) : 0 ≤ (enE x).getD i 0 ∧ (enE x).getD i 0 ≤ 8646911284551352320 := by
  by_cases hi : i < 8
  · obtain ⟨g0, g1, g2⟩ := edge_step (n := (x.length : Int)) he (b := (i : Int)) (by omega) (by omega)
    obtain ⟨_, _, _, _, n1, _⟩ := edges_ok _ he
    have m := enS_mono hx (show (rd (edgesV x.length) (i : Int)).toNat ≤ (rd (edgesV x.length) ((i : Int) + 1)).toNat by omega) (by omega)
    have a := enS_range hx (rd (edgesV x.length) ((i : Int) + 1)).toNat (by omega)
    have c := enS_range hx (rd (edgesV x.length) (i : Int)).toNat (by omega)
    rw [en_at x hi]; unfold dE edE
    omega
  · rw [List.getD_eq_getElem?_getD, List.getElem?_eq_none (by show 8 ≤ i; omega)]; decide
theorem q_at (x : List Int) {i : Nat} (hi : i < 8) : (qE x).getD i 0 = logV ((enE x).getD i 0 / ((edE x).getD (i + 1) 0 - (edE x).getD i 0) + 1) := by
  rw [qE, List.getD_eq_getElem?_getD, List.getElem?_map, List.getElem?_range hi]; rfl
theorem mean_range (x : List Int) (hx : Lines x) (he : edE x ≠ []) {i : Nat} (hi : i < 8) : 0 < (enE x).getD i 0 / ((edE x).getD (i + 1) 0 - (edE x).getD i 0) + 1 ∧ (enE x).getD i 0 / ((edE x).getD (i + 1) 0 - (edE x).getD i 0) + 1 ≤ 18446744073709551615 := by
  have h1 := en_range x hx he i
  have h2 := ed_gap x he hi
  generalize (enE x).getD i 0 = a at h1
  generalize (edE x).getD (i + 1) 0 - (edE x).getD i 0 = g at h2
  have h3 : 0 ≤ a / g := Int.ediv_nonneg h1.1 (by omega)
  have h4 : a / g ≤ a := Int.ediv_le_self _ h1.1
  omega
theorem lfacts (x : List Int) (hx : Lines x) (he : edE x ≠ []) : LFacts 1000 (enE x) (edE x) (qE x) (hE x) := by
  refine ⟨rfl, (edges_ok _ he).1, by simp [qE], rfl, fun i => ?_, fun i hi => ed_gap x he hi, fun i => ?_, fun i hi => ?_⟩
  · have := en_range x hx he i; omega
  · by_cases hi : i < 8
    · have hm := mean_range x hx he hi
      have := logV_range hm.1 hm.2
      rw [q_at x hi]; omega
    · rw [List.getD_eq_getElem?_getD, List.getElem?_eq_none (by simp [qE]; omega)]; decide
  · have hm := mean_range x hx he hi
    rw [Log_eq (by omega) hm.2 (by decide), if_neg (by omega), q_at x hi]
theorem rfacts (x : List Int) (hx : Lines x) (he : edE x ≠ []) : RFacts 1000 x.length (enE x) (edE x) (qE x) (hE x) := by
  refine ⟨fun i hi => ?_, fun i hi => ?_⟩
  · rw [Edge_eq he (by omega) (by omega), rd, Int.toNat_natCast]; rfl
  · have hm := mean_range x hx he hi
    rw [rLog_eq (by omega) hm.2 (by decide), if_neg (by omega), q_at x hi]
theorem small_dD (x : List Int) (hx : Lines x) (he : edE x ≠ []) : small (dD x) := by
  have hf := lfacts x hx he
  refine ⟨by unfold dD; rw [loudL_length, hf.h8], fun i => ?_⟩
  by_cases hi : i < 8
  · have h1 := hf.hb i
    have h2 := sumUpto_b hf.hb 8
    unfold dD
    rw [loudL_at (by rw [hf.h8]; exact hi), Int.tdiv_eq_ediv_of_nonneg h2.1]
    omega
  · unfold dD
    rw [List.getD_eq_getElem?_getD, List.getElem?_eq_none (by rw [loudL_length, hf.h8]; omega)]; decide
theorem Energies_of (x : List Int) (hx : Lines x) (hl : x.length ≤ 300) (he : edE x ≠ []) : band_Energies.f 1000 x = some (enE x, 0) := by
  rw [Energies_eq hx (.inl (by omega)), if_neg (show edgesV (x.length : Int) ≠ [] from he)]; rfl
theorem Energies_no (x : List Int) (hx : Lines x) (he : edE x = []) : band_Energies.f 1000 x = some ([], 1) := by
  rw [Energies_eq hx (.inr he), if_pos (show edgesV (x.length : Int) = [] from he)]
theorem Edges_of (x : List Int) (he : edE x ≠ []) : band_Edges.f (x.length : Int) = some (edE x, 0) := by
  unfold band_Edges.f; rw [if_neg (show edgesV (x.length : Int) ≠ [] from he)]; rfl
theorem rEnergies_of (x : List Int) (hx : Lines x) (hl : x.length ≤ 300) (he : edE x ≠ []) : psalteryref15_Energies.f 1000 x = some (enE x) := by
  rw [rEnergies_eq hx he (by omega)]; rfl
/-- Lines of 8, as the law's example has them. -/
def x40 : List Int := List.replicate 40 8
theorem x40_shape : bestUpto (dD x40) 16 = 0 ∧ restL (dD x40) 0 = z8 ∧ edE x40 ≠ [] := by decide +kernel
theorem x40_lines : Lines x40 := by unfold Lines; decide
end Go.Proofs.Ytblehkoonajofaa.PShape
