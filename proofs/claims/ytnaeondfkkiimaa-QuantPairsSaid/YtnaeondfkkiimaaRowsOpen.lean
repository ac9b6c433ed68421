/- A slice of slices of integers that came in, opened as the print's kinds read it: for a law's row. -/
import Derived.Deep.Matrix
import Derived.Test.YtnaeondfkkiimaaWWords
namespace Go.Proofs.Ytnaeondfkkiimaa.RowsOpen
open Go.Deep Go.ChangeShapes Go.WideShapes Go.RowKit Go.Proofs.YtnaeondfkkiimaaW.PrintWords
set_option linter.unusedVariables false

theorem open_rows {H : Type} {enc : TypeId × Value → H} {P : Program} {w : World} {base : Nat} {held : Bool} {t e q : TypeId} {k : IntKind} {A : Option Addr} {len cap : Nat} {d : DataW H} {ps : List MemPlace}
    (ht : P.underlying t = some (.slice e)) (he : P.underlying e = some (.slice q)) (hq : P.underlying q = some (.int k)) (ce : P.cellsOf e = 1) (cq : P.cellsOf q = 1)
    (h : DataW.Trod enc P w base (fun _ => true) held t (.slice A len cap) d ps) (g : Nat) :
    ∃ l : List (List Int), l.length = len ∧ len ≤ cap ∧ len ≤ maxLen ∧ Kd.C (Kd.slice g (Kd.int k)) w A l.length l ∧ (∀ r ∈ l, r.length ≤ maxLen ∧ ∀ x ∈ r, (Lit.int k x).wf = true) := by
  obtain ⟨fuel, hf⟩ := h
  rcases open_int_rows ht he hq ce cq hf with ⟨hcs, _⟩ | ⟨a, l, c, B, L, C, Z, hcs, _, hl, hm, _, hx⟩
  · simp [Value.cells] at hcs
    obtain ⟨rfl, rfl, rfl⟩ := hcs
    exact ⟨[], rfl, Nat.le_refl _, Nat.zero_le _, ⟨rfl, by decide, fun h => absurd h (by decide)⟩, fun r hr => by cases hr⟩
  · simp [Value.cells] at hcs
    obtain ⟨rfl, rfl, rfl⟩ := hcs
    refine ⟨(List.range len).map fun r => (Z r).take (L r), by simp, hl, Nat.le_trans hl hm, ?_, ?_⟩
    · refine ⟨rfl, ?_, fun hp => ⟨a, rfl, fun j p hj => ?_⟩⟩
      · have := Nat.le_trans hl hm; unfold maxLen at this; simpa using this
      · rw [List.getElem?_map] at hj
        obtain ⟨j', hj', rfl⟩ := Option.map_eq_some_iff.1 hj
        have hlt : j < len := by
          have := (List.getElem?_eq_some_iff.1 hj').1; simpa using this
        have ej : j' = j := by
          rw [List.getElem?_range hlt] at hj'; exact (Option.some.inj hj').symm
        subst ej
        obtain ⟨hc, r1, r2, r3, r4, r5, r6⟩ := hx j' (by omega)
        have hlen : ((Z j').take (L j')).length = L j' := by rw [List.length_take]; omega
        refine ⟨[.slice (B j') (L j') (C j')], rfl, ⟨B j', C j', by rw [hlen], by rw [hlen]; exact r1, ?_⟩, fun i u hi => ?_⟩
        · refine ⟨rfl, ?_, fun hp => ?_⟩
          · rw [hlen]; unfold maxLen at r2; omega
          · rw [hlen] at hp
            cases hB : B j' with
            | none => have := r5 hB; omega
            | some a' =>
              refine ⟨a', rfl, fun i n hi => ?_⟩
              have hil : i < L j' := by have := (List.getElem?_eq_some_iff.1 hi).1; rw [hlen] at this; exact this
              refine ⟨[.int k n], rfl, rfl, fun i' u hu => ?_⟩
              have e0 : i' = 0 := by have := (List.getElem?_eq_some_iff.1 hu).1; simp at this; exact this
              subst e0
              have hu' : u = .int k n := by simpa using hu.symm
              subst hu'
              have hcell := (r6 a' hB).2 i (by omega)
              have hn : n = (Z j').getD i 0 := by
                rw [List.getElem?_take, if_pos hil] at hi
                rw [List.getD_eq_getElem?_getD, hi]; rfl
              rw [hn]
              simpa [Kd.int, Kd.scalar] using hcell
        · have e0 : i = 0 := by have := (List.getElem?_eq_some_iff.1 hi).1; simp at this; exact this
          subst e0
          have hu' : u = .slice (B j') (L j') (C j') := by simpa using hi.symm
          subst hu'
          simpa [Kd.slice] using hc
    · intro r hr
      obtain ⟨j, hj, rfl⟩ := List.mem_map.1 hr
      have hlt : j < len := List.mem_range.1 hj
      obtain ⟨hc, r1, r2, r3, r4, r5, r6⟩ := hx j (by omega)
      exact ⟨by rw [List.length_take]; omega, fun x hx => r4 x (List.mem_of_mem_take hx)⟩
end Go.Proofs.Ytnaeondfkkiimaa.RowsOpen
