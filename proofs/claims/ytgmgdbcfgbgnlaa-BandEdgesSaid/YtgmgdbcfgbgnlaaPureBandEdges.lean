/- The plain statement of the law BandEdges: the edges of any length, and what any width keeps. No condition. -/
import Derived.Test.YtgmgdbcfgbgnlaaBandLib
namespace Go.Proofs.Ytgmgdbcfgbgnlaa.Pure
open Go.RowKit Go.Proofs.Ytgmgdbcfgbgnlaa.PBand Go.Proofs.Ytgmgdbcfgbgnlaa.Num Go.Proofs.Ytgmgdbcfgbgnlaa.BandLib Go.Proofs.YtgmgdbcfgbgnlaaW.PrintWords Go.Proofs.YtgmgdbcfgbgnlaaW.PrintLast Go.Proofs.YtgmgdbcfgbgnlaaW.PrintMore
theorem BandEdges : psalterylaw15_BandEdges.Pure := by
  intro n w _ hw
  have hw := i64_of hw
  refine ⟨100, ?_⟩
  unfold psalterylaw15_BandEdges.f
  rw [alive_eq (by decide)]; simp only [Option.bind_some, if_true]
  rw [Kept_eq, May_eq]
  unfold band_Edges.f
  simp only [Option.bind_some]
  by_cases he : edgesV n = []
  · simp [he]
  · obtain ⟨l9, _⟩ := edges_ok n he
    rw [if_neg he, decide_eq_true he, if_pos rfl, if_pos rfl, l9]
    simp only [psalterylaw15_BandEdges.j0]
    rw [if_neg (by decide)]
    have st : ∀ (m : Nat) (i x7 x8 : Int), 0 ≤ i → i < 9 → psalterylaw15_BandEdges.l0 (m + 1) n w (edgesV n) x7 x8 i = psalterylaw15_BandEdges.l0 m n w (edgesV n) x7 x8 (i + 1) := by
      intro m i x7 x8 i0 i1
      simp only [psalterylaw15_BandEdges.l0]
      rw [if_pos i1, if_pos i0, if_pos (by omega), Edge_eq he i0 (by omega)]; simp only [Option.bind_some]
      rw [if_pos trivial, w64 (by omega) (by omega)]
    rw [st 98 _ _ _ (by decide) (by decide), show (0 : Int) + 1 = 1 from rfl, st 97 _ _ _ (by decide) (by decide), show (1 : Int) + 1 = 2 from rfl, st 96 _ _ _ (by decide) (by decide), show (2 : Int) + 1 = 3 from rfl, st 95 _ _ _ (by decide) (by decide), show (3 : Int) + 1 = 4 from rfl, st 94 _ _ _ (by decide) (by decide), show (4 : Int) + 1 = 5 from rfl, st 93 _ _ _ (by decide) (by decide), show (5 : Int) + 1 = 6 from rfl, st 92 _ _ _ (by decide) (by decide), show (6 : Int) + 1 = 7 from rfl, st 91 _ _ _ (by decide) (by decide), show (7 : Int) + 1 = 8 from rfl, st 90 _ _ _ (by decide) (by decide)]
    have ex : ∀ (m : Nat) (x7 x8 : Int), psalterylaw15_BandEdges.l0 (m + 1) n w (edgesV n) x7 x8 9 = (if w < 0 then (if x7 = 0 then (some (x8 == 1)) else (some false)) else (if w > 3 then (if x7 = 0 then (some (x8 == 1)) else (some false)) else (if x8 = 0 then ((psalteryref15_Edge.f n (wrap64 ((wrap64 (2 * w)) + 2))).bind fun t156 => (some (x7 == t156))) else (some false)))) := by
      intro m x7 x8
      simp only [psalterylaw15_BandEdges.l0]
      rw [if_neg (by decide)]
    rw [show (8 : Int) + 1 = 9 from rfl, ex 89]
    by_cases c1 : w < 0
    · have cc : edgesV n = [] ∨ w < 0 ∨ w > 3 := .inr (.inl c1)
      rw [if_pos c1, if_pos cc]; rfl
    · rw [if_neg c1]
      by_cases c2 : w > 3
      · have cc : edgesV n = [] ∨ w < 0 ∨ w > 3 := .inr (.inr c2)
        rw [if_pos c2, if_pos cc]; rfl
      · have cc : ¬ (edgesV n = [] ∨ w < 0 ∨ w > 3) := by rintro (x | x | x); exact he x; exact c1 x; exact c2 x
        rw [if_neg c2, if_neg cc]; dsimp only
        rw [if_pos rfl, w64 (a := 2 * w) (by omega) (by omega), w64 (by omega) (by omega), Edge_eq he (by omega) (by omega)]
        simp only [Option.bind_some, kept, beq_self_eq_true]
end Go.Proofs.Ytgmgdbcfgbgnlaa.Pure
