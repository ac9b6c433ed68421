/- A slice of structs of two ints and a slice of int16 that came in, opened at every element: for the row of PcmStores. -/
import Derived.Deep.Slices
import Derived.Deep.Strs
import Derived.ProofKit
import Derived.Test.YtgmgdbcfgbgnlaaWWords
import Derived.Test.YtgmgdbcfgbgnlaaNum
namespace Go.Proofs.Ytgmgdbcfgbgnlaa.ActsOpen
open Go.Deep Go.ChangeShapes Go.WideShapes Go.RowKit Go.Proofs.YtgmgdbcfgbgnlaaW.PrintWords
set_option linter.unusedVariables false
theorem at_field (a : Addr) (j d : Nat) : (a.add j).add (d + 1) = ⟨(a.add j).block, (a.add j).off + (d + 1), none⟩ := by
  show (if d + 1 = 0 then a.add j else { a.add j with off := (a.add j).off + (d + 1), spot := none }) = _
  rw [if_neg (by omega)]
theorem ints_C {w : World} {k : IntKind} {a : Addr} {len : Nat} {zs : List Int} (hm : len ≤ zs.length) (hx : zs.length ≤ 9223372036854775807) (hcell : ∀ i, i < zs.length → w.cell? (a.add i) = some (.int k (zs.getD i 0))) : Kd.C (Kd.int k) w (some a) (zs.take len).length (zs.take len) := by
  have hl : (zs.take len).length = len := by rw [List.length_take]; omega
  refine ⟨rfl, by omega, fun hp => ⟨a, rfl, fun i n hi => ?_⟩⟩
  have hil : i < len := by have := (List.getElem?_eq_some_iff.1 hi).1; omega
  refine ⟨[.int k n], rfl, rfl, fun i' u hu => ?_⟩
  have e0 : i' = 0 := by have := (List.getElem?_eq_some_iff.1 hu).1; simp at this; exact this
  subst e0
  have hu' : u = .int k n := by simpa using hu.symm
  subst hu'
  have hn : n = zs.getD i 0 := by
    rw [List.getElem?_take, if_pos hil] at hi
    rw [List.getD_eq_getElem?_getD, hi]; rfl
  rw [hn]
  simpa [Kd.int, Kd.scalar] using hcell i (by omega)
theorem open_acts {H : Type} {enc : TypeId × Value → H} {P : Program} {w : World} {base : Nat} {held : Bool} {t e ti ts tq : TypeId} {k ki : IntKind} {n0 n1 n2 g0 g1 g2 k0 k1 k2 : String} {b0 b1 b2 : Nat} {A : Option Addr} {len cap : Nat} {d : DataW H} {ps : List MemPlace}
    (ht : P.underlying t = some (.slice e)) (he : P.underlying e = some (.struct #[⟨n0, ti, 0, false, g0, k0, b0⟩, ⟨n1, ti, 1, false, g1, k1, b1⟩, ⟨n2, ts, 2, false, g2, k2, b2⟩])) (hi : P.underlying ti = some (.int ki)) (hs : P.underlying ts = some (.slice tq)) (hq : P.underlying tq = some (.int k))
    (ce : P.cellsOf e = 3) (ci : P.cellsOf ti = 1) (cs : P.cellsOf ts = 1) (cq : P.cellsOf tq = 1)
    (h : DataW.Trod enc P w base (fun _ => true) held t (.slice A len cap) d ps) :
    ∀ i : Nat, i < len → ∃ ad k0 m A' c x, A = some ad ∧ w.cell? (ad.add (i * 3)) = some (.int ki k0) ∧ w.cell? ⟨(ad.add (i * 3)).block, (ad.add (i * 3)).off + 1, none⟩ = some (.int ki m) ∧ w.cell? ⟨(ad.add (i * 3)).block, (ad.add (i * 3)).off + 2, none⟩ = some (.slice A' x.length c) ∧ Kd.C (Kd.int k) w A' x.length x := by
  obtain ⟨fuel, hf⟩ := h
  rcases open_slice ht hf with ⟨hcs, _⟩ | ⟨a, l, c, m, n, D, Pl, hcs, _, hl, hm, hmm, _, hx⟩
  · simp [Value.cells] at hcs
    obtain ⟨rfl, rfl, rfl⟩ := hcs
    intro i hi; omega
  · simp [Value.cells] at hcs
    obtain ⟨rfl, rfl, rfl⟩ := hcs
    intro i hil
    obtain ⟨cells, h1, h2⟩ := hx i (by simp at hmm; omega)
    rw [ce] at h1
    obtain ⟨_, hlen, hcell⟩ := World.cells?_some h1
    obtain ⟨y0, y1, y2, n', _, _, f0, f1, f2⟩ := trod_struct3 he h2
    match cells, hlen with
    | [v0, v1, v2], _ =>
      simp only [ci, cs] at f0 f1 f2
      obtain ⟨z0, e0, _, _⟩ := DataW.trod_int hi f0
      obtain ⟨z1, e1, _, _⟩ := DataW.trod_int hi f1
      simp at e0 e1
      subst e0; subst e1
      have c0 := hcell 0 (by omega)
      have c1 := hcell 1 (by omega)
      have c2 := hcell 2 (by omega)
      rw [at_field] at c1 c2
      have c0' : w.cell? (a.add (i * 3)) = some (.int ki z0) := by simpa [Addr.add] using c0
      rcases open_ints hs hq cq f2 with ⟨hcs2, _⟩ | ⟨a2, l2, c2', zs, hcs2, _, hl2, hm2, hz2, _, hcell2, _⟩
      · simp at hcs2
        subst hcs2
        exact ⟨a, z0, z1, none, 0, [], rfl, c0', by simpa using c1, by simpa using c2, ⟨rfl, by decide, fun h => absurd h (by decide)⟩⟩
      · simp at hcs2
        subst hcs2
        simp at hz2
        have hlz : (zs.take l2).length = l2 := by rw [List.length_take]; omega
        refine ⟨a, z0, z1, some a2, c2', zs.take l2, rfl, c0', by simpa using c1, ?_, ints_C (by omega) (by unfold maxLen at hm2; omega) hcell2⟩
        rw [hlz]; simpa using c2
end Go.Proofs.Ytgmgdbcfgbgnlaa.ActsOpen
