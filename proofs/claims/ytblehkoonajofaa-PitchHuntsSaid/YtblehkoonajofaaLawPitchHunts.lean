/- The law PitchHunts: for all lists [][]int16 that can be read, psalterylaw18.PitchHunts returns true and leaves its argument as it was. No condition. -/
import Derived.Test.YtblehkoonajofaaRows
import Derived.Test.YtblehkoonajofaaPitchHuntsWalk
import Derived.Test.YtblehkoonajofaaRowsOpen
import Derived.Test.YtblehkoonajofaaRowAt
import Derived.WalkKit
import Derived.ProofKit
import Derived.OpenShut
import Derived.ShutString
import Derived.ChangeOld
import Derived.Below
import Derived.SizedLaws
namespace Go.Proofs.Ytblehkoonajofaa.pitchHunts
open Go.ChangeShapes Go.WideShapes Go.ChangeAt Go.RowKit
set_option linter.unusedVariables false
theorem own : ownKnob Try.prog.godebug = none := by kernel_rfl
theorem laidOut : laidOutB Try.prog = true := by kernel_rfl
set_option maxRecDepth 100000 in
theorem lifted (os : Os) (started : os.Started) (H : Type) (enc : TypeId × Value → H) :
    ReturnsInHanded {} Try.checked os 3 .any (Rows.pitchHuntsSpec.pre6 enc Try.prog Try.f3 Rows.pitchHuntsRow.domain false) (Rows.pitchHuntsSpec.post enc Try.prog Try.f3 false true false false) := by
  refine returnsInHanded_of_change_sized (C := Try.checked) own started (by kernel_rfl) Try.func3
    (ChangeSpec.witness6 (enc := enc) (C := Try.checked) false ⟨#[], #[.slice none 0 0], []⟩ 8 (by kernel_rfl) (by kernel_rfl) (by kernel_rfl) (by kernel_rfl)) ?_
  intro W base args ds gs before hval0 hW hcnd hsz0 _
  have hval : ∀ (j : Nat) t v, Try.f3.params[j]? = some t → args[j]? = some v → Value.okWide Try.prog W .any base t v := hval0
  have hW' := hW
  obtain ⟨p, q, hA0, hV, rfl, hfz, hnd⟩ := hW
  have hA : DataW.TrodAll enc Try.prog W 0 (fun _ => true) true Try.f3.params.toList args.toList ds p := hA0
  rw [Try.params3] at hA hval
  obtain ⟨v0, vs0, d0, ds0, p0, q0, hargs, rfl, rfl, h0, r0⟩ := trodAll_cons hA
  obtain ⟨rfl, rfl, rfl⟩ := trodAll_nil r0
  obtain rfl : args = #[v0] := by cases args; simp_all
  obtain ⟨rfl, rfl⟩ := trodVars_none hV
  obtain ⟨a0, len0, cap0, rfl⟩ := okWide_slice Try.underlying22 (hval 0 22 v0 rfl rfl)
  have k0 := h0
  have lt0 : ∀ x ∈ p0, x.block < W.heap.size := by obtain ⟨m, hm⟩ := k0; exact DataW.trod_lt m _ _ _ hm
  obtain ⟨l, rfl, hc, hm, hC, hr⟩ := RowsOpen.open_rows Try.underlying22 Try.underlying27 Try.underlying33 (by kernel_rfl) (by kernel_rfl) h0 33
  have hrow : ∀ i : Nat, i < l.length → ∃ ad A c x, a0 = some ad ∧ W.cell? (ad.add i) = some (.slice A x.length c) ∧ Go.Proofs.YtblehkoonajofaaW.PrintWords.ReadsInt W .i16 A x.length x ∧ ∀ v ∈ x, -32768 ≤ v ∧ v ≤ 32767 := fun i hi => by
    obtain ⟨ad, A, c, e, hc', _, hC'⟩ := RowAt.row_at hC i hi
    refine ⟨ad, A, c, _, e, hc', hC', fun v hv => Num.i16_of ((hr _ ?_).2 v hv)⟩
    rw [List.getD_eq_getElem?_getD, List.getElem?_eq_getElem hi]; exact List.getElem_mem _
  clear hA0 hval0 hsz0
  refine (PPitch.psalterylaw18_PitchHunts.calls a0 cap0 l.length W hrow).mono fun e W' ⟨he, bel⟩ => ?_
  subst he
  exact ⟨_, rfl, _, _, _, [], _, [], hW', trodAll_mk1 (shut_bool Try.underlying4 _), (trodAll_cons_mk (Below.trod laidOut (by kernel_rfl) (of_decide_eq_true (by kernel_rfl)) k0 bel lt0) trodAll_mk0), rfl, bel.frame _, fun h => by cases h⟩
theorem over : Rows.pitchHuntsRow.holds Try.pinned (OpenSpec.ofChange Rows.pitchHuntsSpec) :=
  OpenClaim.holds_of_wide 3 Try.f3 rfl rfl rfl rfl rfl rfl rfl ⟨rfl, rfl, rfl, rfl, rfl⟩ rfl rfl rfl rfl rfl (by kernel_rfl) Try.func3 (by kernel_rfl)
    (of_decide_eq_true (by kernel_rfl)) (by unfold Func.isWrapper; first | (rw [if_pos (by decide +kernel)]; kernel_rfl) | (rw [if_neg (by decide +kernel)]; exact ⟨rfl, rfl⟩))
    (fun os started H enc _ => lifted os started H enc)
theorem proved : Rows.PitchHuntsSaid := over
end Go.Proofs.Ytblehkoonajofaa.pitchHunts
namespace Go.Proofs.Ytblehkoonajofaa
/-- The row, under a short name, for the claim. -/
theorem pitchHunts_holds : Rows.PitchHuntsSaid := pitchHunts.proved
end Go.Proofs.Ytblehkoonajofaa
