/- A slice of slices of integers that came in, and what a bound of its bulk says of each row. -/
import Derived.Deep.Matrix
import Derived.Test.YtgmgdbcfgbgnlaaWWords
import Derived.Test.YtgmgdbcfgbgnlaaRowsOpen
import Derived.Test.YtgmgdbcfgbgnlaaRows
namespace Go.Proofs.Ytgmgdbcfgbgnlaa.RowsUpto
open Go.Deep Go.ChangeShapes Go.WideShapes Go.RowKit Go.Proofs.YtgmgdbcfgbgnlaaW.PrintWords
set_option linter.unusedVariables false
theorem one_le {H : Type} (d : DataW H) : 1 ≤ Rows.uptoBulk d := by
  cases d with
  | lit l => cases l <;> simp [Rows.uptoBulk]
  | nil => simp [Rows.uptoBulk]
  | ptr d => simp [Rows.uptoBulk]
  | slice elems spare => simp [Rows.uptoBulk]
  | agg parts => simp [Rows.uptoBulk]
  | iface t d => simp [Rows.uptoBulk]
  | map entries => simp [Rows.uptoBulk]
  | held h => simp [Rows.uptoBulk]
theorem part_le {H : Type} {d : DataW H} {l : List (DataW H)} (h : d ∈ l) : Rows.uptoBulk d ≤ Rows.uptoBulkAll l := by
  induction l with
  | nil => cases h
  | cons x r ih =>
    simp only [Rows.uptoBulkAll]
    cases List.mem_cons.1 h with
    | inl e => subst e; omega
    | inr e => have := ih e; omega
theorem length_le {H : Type} (l : List (DataW H)) : l.length ≤ Rows.uptoBulkAll l := by
  induction l with
  | nil => simp [Rows.uptoBulkAll]
  | cons x r ih => have := one_le x; simp only [Rows.uptoBulkAll, List.length_cons]; omega
theorem row_le {H : Type} {k : IntKind} {A : Option Addr} {L : Nat} {zs : List Int} (h : A = none → L = 0) (hz : L ≤ zs.length) : L ≤ Rows.uptoBulk (intRow (H := H) k A L zs) := by
  cases A with
  | none => rw [h rfl]; omega
  | some a =>
    have e : L ≤ (lits (H := H) k (zs.take L)).length := by simp [lits]; omega
    have := length_le (lits (H := H) k (zs.take L))
    simp only [intRow, Rows.uptoBulk]
    omega
/-- Beside what open_rows says: no row is longer than the bulk. -/
theorem open_rows_upto {H : Type} {enc : TypeId × Value → H} {P : Program} {w : World} {base : Nat} {held : Bool} {t e q : TypeId} {k : IntKind} {A : Option Addr} {len cap : Nat} {d : DataW H} {ps : List MemPlace}
    (ht : P.underlying t = some (.slice e)) (he : P.underlying e = some (.slice q)) (hq : P.underlying q = some (.int k)) (ce : P.cellsOf e = 1) (cq : P.cellsOf q = 1)
    (h : DataW.Trod enc P w base (fun _ => true) held t (.slice A len cap) d ps) (g : Nat) :
    ∃ l : List (List Int), l.length = len ∧ len ≤ cap ∧ Kd.C (Kd.slice g (Kd.int k)) w A l.length l ∧ (∀ r ∈ l, r.length ≤ Rows.uptoBulk d ∧ ∀ x ∈ r, (Lit.int k x).wf = true) := by
  obtain ⟨l, hl, hc, hm, hC, hr⟩ := RowsOpen.open_rows ht he hq ce cq h g
  refine ⟨l, hl, hc, hC, fun r hr' => ⟨?_, (hr r hr').2⟩⟩
  obtain ⟨fuel, hf⟩ := h
  obtain ⟨j, hj, rfl⟩ := List.getElem_of_mem hr'
  rcases open_int_rows ht he hq ce cq hf with ⟨hcs, _⟩ | ⟨a, l', c, B, L, C, Z, hcs, _, hl', hm', hd, hx⟩
  · simp [Value.cells] at hcs
    obtain ⟨rfl, rfl, rfl⟩ := hcs
    omega
  · simp [Value.cells] at hcs
    obtain ⟨rfl, rfl, rfl⟩ := hcs
    obtain ⟨hc1, r1, r2, r3, r4, r5, r6⟩ := hx j (by omega)
    obtain ⟨_, _, hall⟩ := hC
    obtain ⟨a2, ha2, hall⟩ := hall (by omega)
    cases ha2
    obtain ⟨vs, hvs, hel, hcell⟩ := hall j l[j] (List.getElem?_eq_getElem hj)
    obtain ⟨A', c', rfl, _, _⟩ := hel
    have hc2 := hcell 0 _ rfl
    have e1 : w.cell? (a.add j) = some (.slice A' l[j].length c') := by simpa [Kd.slice] using hc2
    rw [hc1] at e1
    obtain ⟨_, e2, _⟩ := Value.slice.inj (Option.some.inj e1)
    have p1 : L j ≤ Rows.uptoBulk (intRow (H := H) k (B j) (L j) (Z j)) := row_le (fun q => by have := r5 q; omega) (by omega)
    have e3 : d = .slice ((List.range len).map fun r => intRow k (B r) (L r) (Z r)) ((List.range (cap - len)).map fun j => intRow k (B (len + j)) (L (len + j)) (Z (len + j))) := (Prod.mk.inj hd).1
    rw [← e2, e3]
    have p2 : Rows.uptoBulk (intRow (H := H) k (B j) (L j) (Z j)) ≤ Rows.uptoBulkAll ((List.range len).map fun r => intRow (H := H) k (B r) (L r) (Z r)) := part_le (List.mem_map.2 ⟨j, List.mem_range.2 (by omega), rfl⟩)
    simp only [Rows.uptoBulk]
    omega
end Go.Proofs.Ytgmgdbcfgbgnlaa.RowsUpto
