/- A filter that came in, opened as the walks read it. -/
import Derived.Test.YtblehkoonajofaaTnsBase
import Derived.WideShapes
namespace Go.Proofs.Ytblehkoonajofaa.PTns
open Go.RowKit Go.WideShapes Go.Proofs.YtblehkoonajofaaW.PrintWords
theorem cell_int {P : Program} {w : World} {r : Reach} {base : Nat} {t : TypeId} {k : IntKind} {v : Value} (h3 : P.underlying t = some (.int k)) (h : Cell.okWide P w r base t v) : ∃ n, v = .int k n := by
  simp only [Cell.okWide, h3] at h
  cases v <;> simp_all [Cell.ok]
theorem row_of {P : Program} {w : World} {r : Reach} {base : Nat} {t : TypeId} {fs : Array Field} {v : Value} (hu : P.underlying t = some (.struct fs)) (h : Value.okWide P w r base t v) : ∃ cs, v = .agg cs ∧ cs.size = P.cellsOf t ∧ Row.okWide P w r base t cs := by
  simp only [Value.okWide, hu] at h
  exact h
set_option maxRecDepth 100000 in
theorem open_filt {w : World} {base : Nat} {v : Value} (h : Value.okWide Try.prog w .any base 63 v) : ∃ (c : Int) (r : List Int), r.length = 4 ∧ v = filtV c r := by
  obtain ⟨fs, hu⟩ : ∃ fs, Try.prog.underlying 63 = some (.struct fs) := ⟨_, Try.underlying63⟩
  obtain ⟨cs, rfl, hsz, ts, hts, _, hall⟩ := row_of hu h
  have h5c : Try.prog.cellsOf 63 = 5 := by kernel_rfl
  have ht : Try.prog.cellTypes Try.prog.depth 63 = some [3, 3, 3, 3, 3] := by kernel_rfl
  rw [h5c] at hsz
  rw [ht] at hts
  obtain rfl := Option.some.inj hts
  have h3 : Try.prog.underlying 3 = some (.int .i64) := by kernel_rfl
  have hc : ∀ i, i < 5 → ∃ n : Int, cs[i]? = some (.int .i64 n) := by
    intro i hi
    obtain ⟨u, hu2, hok⟩ := hall i cs[i] (Array.getElem?_eq_getElem (by omega))
    have hu3 : u = 3 := by
      have hm : i % [3, 3, 3, 3, (3 : TypeId)].length = i := Nat.mod_eq_of_lt hi
      rw [hm] at hu2
      have hc : i = 0 ∨ i = 1 ∨ i = 2 ∨ i = 3 ∨ i = 4 := by omega
      rcases hc with rfl | rfl | rfl | rfl | rfl <;> exact (Option.some.inj hu2).symm
    subst hu3
    obtain ⟨n, hn⟩ := cell_int h3 hok
    exact ⟨n, by rw [Array.getElem?_eq_getElem (by omega), hn]⟩
  obtain ⟨c, g0⟩ := hc 0 (by decide)
  obtain ⟨r0, g1⟩ := hc 1 (by decide)
  obtain ⟨r1, g2⟩ := hc 2 (by decide)
  obtain ⟨r2, g3⟩ := hc 3 (by decide)
  obtain ⟨r3, g4⟩ := hc 4 (by decide)
  refine ⟨c, [r0, r1, r2, r3], rfl, ?_⟩
  have he : cs = #[.int .i64 c, .int .i64 r0, .int .i64 r1, .int .i64 r2, .int .i64 r3] := by
    apply Array.ext_getElem?
    intro i
    by_cases hi : i < 5
    · have hc : i = 0 ∨ i = 1 ∨ i = 2 ∨ i = 3 ∨ i = 4 := by omega
      rcases hc with rfl | rfl | rfl | rfl | rfl
      · exact g0
      · exact g1
      · exact g2
      · exact g3
      · exact g4
    · rw [Array.getElem?_eq_none (by omega), Array.getElem?_eq_none (by simp; omega)]
  rw [he]; rfl
end Go.Proofs.Ytblehkoonajofaa.PTns
