/- The law PitchCombs: for all lists [][]int32 and all pitches that can be read, psalterylaw18.PitchCombs returns true and leaves its arguments as they were. No condition. -/
import Derived.Test.YtblehkoonajofaaRows
import Derived.Test.YtblehkoonajofaaPitchCombsWalk
import Derived.Test.YtblehkoonajofaaRowsOpen
import Derived.Test.YtblehkoonajofaaRowAt
import Derived.Test.YtblehkoonajofaaPairsOpen
import Derived.WalkKit
import Derived.ProofKit
import Derived.OpenShut
import Derived.ShutString
import Derived.ChangeOld
import Derived.Below
import Derived.SizedLaws
namespace Go.Proofs.Ytblehkoonajofaa.pitchCombs
open Go.ChangeShapes Go.WideShapes Go.ChangeAt Go.RowKit
set_option linter.unusedVariables false
theorem own : ownKnob Try.prog.godebug = none := by kernel_rfl
theorem laidOut : laidOutB Try.prog = true := by kernel_rfl
set_option maxRecDepth 100000 in
theorem lifted (os : Os) (started : os.Started) (H : Type) (enc : TypeId × Value → H) :
    ReturnsInHanded {} Try.checked os 4 .any (Rows.pitchCombsSpec.pre6 enc Try.prog Try.f4 Rows.pitchCombsRow.domain false) (Rows.pitchCombsSpec.post enc Try.prog Try.f4 false true false false) := by
  refine returnsInHanded_of_change_sized (C := Try.checked) own started (by kernel_rfl) Try.func4
    (ChangeSpec.witness6 (enc := enc) (C := Try.checked) false ⟨#[], #[.slice none 0 0, .slice none 0 0], []⟩ 8 (by kernel_rfl) (by kernel_rfl) (by kernel_rfl) (by kernel_rfl)) ?_
  intro W base args ds gs before hval0 hW hcnd hsz0 _
  have hval : ∀ (j : Nat) t v, Try.f4.params[j]? = some t → args[j]? = some v → Value.okWide Try.prog W .any base t v := hval0
  have hW' := hW
  obtain ⟨p, q, hA0, hV, rfl, hfz, hnd⟩ := hW
  have hA : DataW.TrodAll enc Try.prog W 0 (fun _ => true) true Try.f4.params.toList args.toList ds p := hA0
  rw [Try.params4] at hA hval
  obtain ⟨v0, vs0, d0, ds0, p0, q0, hargs, rfl, rfl, h0, r0⟩ := trodAll_cons hA
  obtain ⟨v1, vs1, d1, ds1, p1, q1, rfl, rfl, rfl, h1, r1⟩ := trodAll_cons r0
  obtain ⟨rfl, rfl, rfl⟩ := trodAll_nil r1
  obtain rfl : args = #[v0, v1] := by cases args; simp_all
  obtain ⟨rfl, rfl⟩ := trodVars_none hV
  obtain ⟨a0, len0, cap0, rfl⟩ := okWide_slice Try.underlying37 (hval 0 37 v0 rfl rfl)
  obtain ⟨a1, len1, cap1, rfl⟩ := okWide_slice Try.underlying38 (hval 1 38 v1 rfl rfl)
  have k0 := h0
  have k1 := h1
  have lt1 : ∀ x ∈ p1, x.block < W.heap.size := by obtain ⟨m, hm⟩ := k1; exact DataW.trod_lt m _ _ _ hm
  have hps := PairsOpen.open_pairs Try.underlying38 Try.underlying34 Try.underlying3 (by kernel_rfl) (by kernel_rfl) h1
  have lt0 : ∀ x ∈ p0, x.block < W.heap.size := by obtain ⟨m, hm⟩ := k0; exact DataW.trod_lt m _ _ _ hm
  obtain ⟨l, rfl, hc, hm, hC, hr⟩ := RowsOpen.open_rows Try.underlying37 Try.underlying41 Try.underlying21 (by kernel_rfl) (by kernel_rfl) h0 21
  have hrow : ∀ i : Nat, i < l.length → ∃ ad A c x, a0 = some ad ∧ W.cell? (ad.add i) = some (.slice A x.length c) ∧ Go.Proofs.YtblehkoonajofaaW.PrintWords.ReadsInt W .i32 A x.length x ∧ ∀ v ∈ x, -2147483648 ≤ v ∧ v ≤ 2147483647 := fun i hi => by
    obtain ⟨ad, A, c, e, hc', _, hC'⟩ := RowAt.row_at hC i hi
    refine ⟨ad, A, c, _, e, hc', hC', fun v hv => Num.i32_of ((hr _ ?_).2 v hv)⟩
    rw [List.getD_eq_getElem?_getD, List.getElem?_eq_getElem hi]; exact List.getElem_mem _
  clear hA0 hval0 hsz0
  refine (PPitch.psalterylaw18_PitchCombs.calls a0 a1 cap0 l.length cap1 len1 W hrow hps).mono fun e W' ⟨he, bel⟩ => ?_
  subst he
  exact ⟨_, rfl, _, _, _, [], _, [], hW', trodAll_mk1 (shut_bool Try.underlying4 _), (trodAll_cons_mk (Below.trod laidOut (by kernel_rfl) (of_decide_eq_true (by kernel_rfl)) k0 bel lt0) (trodAll_cons_mk (Below.trod laidOut (by kernel_rfl) (of_decide_eq_true (by kernel_rfl)) k1 bel lt1) trodAll_mk0)), rfl, bel.frame _, fun h => by cases h⟩
theorem over : Rows.pitchCombsRow.holds Try.pinned (OpenSpec.ofChange Rows.pitchCombsSpec) :=
  OpenClaim.holds_of_wide 4 Try.f4 rfl rfl rfl rfl rfl rfl rfl ⟨rfl, rfl, rfl, rfl, rfl⟩ rfl rfl rfl rfl rfl (by kernel_rfl) Try.func4 (by kernel_rfl)
    (of_decide_eq_true (by kernel_rfl)) (by unfold Func.isWrapper; first | (rw [if_pos (by decide +kernel)]; kernel_rfl) | (rw [if_neg (by decide +kernel)]; exact ⟨rfl, rfl⟩))
    (fun os started H enc _ => lifted os started H enc)
theorem proved : Rows.PitchCombsSaid := over
end Go.Proofs.Ytblehkoonajofaa.pitchCombs
namespace Go.Proofs.Ytblehkoonajofaa
/-- The row, under a short name, for the claim. -/
theorem pitchCombs_holds : Rows.PitchCombsSaid := pitchCombs.proved
end Go.Proofs.Ytblehkoonajofaa
