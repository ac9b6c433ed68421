/- One row of a slice of slices of integers, read at its place. -/
import Derived.Test.YtnaeondfkkiimaaWWords
namespace Go.Proofs.Ytnaeondfkkiimaa.RowAt
open Go.RowKit Go.Proofs.YtnaeondfkkiimaaW.PrintWords
theorem reads_int {k : IntKind} {w : World} {A : Option Addr} {n : Nat} {xs : List Int} (h : Kd.C (Kd.int k) w A n xs) : ReadsInt w k A n xs := by
  obtain ⟨h1, h2, h3⟩ := h
  refine ⟨h1, h2, fun hp => ?_⟩
  obtain ⟨ad, e, hc⟩ := h3 hp
  refine ⟨ad, e, fun j hj => ?_⟩
  obtain ⟨c, hl, hr, hcell⟩ := hc j _ (List.getElem?_eq_getElem (by omega))
  have hr' : c = [.int k (xs[j]'(by omega))] := hr
  have := hcell 0 (.int k (xs[j]'(by omega))) (by rw [hr']; rfl)
  have e1 : (Kd.int k).sz = 1 := rfl
  rw [e1, Nat.mul_one, Nat.add_zero] at this
  rw [this, List.getD_eq_getElem?_getD, List.getElem?_eq_getElem (by omega)]; rfl
/-! ### pcm_NewStore: function 15 -/
theorem row_at {g : Nat} {k : IntKind} {w : World} {A : Option Addr} {xs : List (List Int)} (h : Kd.C (Kd.slice g (Kd.int k)) w A xs.length xs) (i : Nat) (hi : i < xs.length) :
    ∃ ad A0 c0, A = some ad ∧ w.cell? (ad.add i) = some (.slice A0 (xs.getD i []).length c0) ∧ (xs.getD i []).length ≤ c0 ∧ ReadsInt w k A0 (xs.getD i []).length (xs.getD i []) := by
  obtain ⟨ad, c, e, _, hK, hc0⟩ := Kd.C_get h ([] : List Int) (i : Int) (by omega) (by omega)
  rw [Int.toNat_natCast] at hK hc0
  have hc : ∀ j u, c[j]? = some u → w.cell? (ad.add (i * 1 + j)) = some u := hc0
  obtain ⟨A0, c0, rfl, l0, g0⟩ := hK
  exact ⟨ad, A0, c0, e, by have hq := hc 0 _ rfl; rwa [Nat.mul_one, Nat.add_zero] at hq, l0, reads_int g0⟩
end Go.Proofs.Ytnaeondfkkiimaa.RowAt
