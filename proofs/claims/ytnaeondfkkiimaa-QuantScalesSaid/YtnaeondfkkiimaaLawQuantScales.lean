/- The law QuantScales: for every plane [][]int32 that can be read, psalterylaw13.QuantScales returns true and leaves its argument as it was. No condition. -/
import Derived.Test.YtnaeondfkkiimaaRows
import Derived.Test.YtnaeondfkkiimaaPQuantx4
import Derived.Test.YtnaeondfkkiimaaPureQuantScales
import Derived.Test.YtnaeondfkkiimaaRowsOpen
import Derived.WalkKit
import Derived.ProofKit
import Derived.OpenShut
import Derived.ShutString
import Derived.ChangeOld
import Derived.Below
import Derived.SizedLaws
namespace Go.Proofs.Ytnaeondfkkiimaa.quantScales
open Go.ChangeShapes Go.WideShapes Go.ChangeAt Go.RowKit
set_option linter.unusedVariables false
theorem own : ownKnob Try.prog.godebug = none := by kernel_rfl
theorem laidOut : laidOutB Try.prog = true := by kernel_rfl
set_option maxRecDepth 100000 in
theorem lifted (os : Os) (started : os.Started) (H : Type) (enc : TypeId × Value → H) :
    ReturnsInHanded {} Try.checked os 11 .any (Rows.quantScalesSpec.pre6 enc Try.prog Try.f11 Rows.quantScalesRow.domain false) (Rows.quantScalesSpec.post enc Try.prog Try.f11 false true false false) := by
  refine returnsInHanded_of_change_sized (C := Try.checked) own started (by kernel_rfl) Try.func11
    (ChangeSpec.witness6 (enc := enc) (C := Try.checked) false ⟨#[], #[.slice none 0 0], []⟩ 8 (by kernel_rfl) (by kernel_rfl) (by kernel_rfl) (by kernel_rfl)) ?_
  intro W base args ds gs before hval0 hW hcnd hsz0 _
  have hval : ∀ (j : Nat) t v, Try.f11.params[j]? = some t → args[j]? = some v → Value.okWide Try.prog W .any base t v := hval0
  have hW' := hW
  obtain ⟨p, q, hA0, hV, rfl, hfz, hnd⟩ := hW
  have hA : DataW.TrodAll enc Try.prog W 0 (fun _ => true) true Try.f11.params.toList args.toList ds p := hA0
  rw [Try.params11] at hA hval
  obtain ⟨v0, vs0, d0, ds0, p0, q0, hargs, rfl, rfl, h0, r0⟩ := trodAll_cons hA
  obtain ⟨rfl, rfl, rfl⟩ := trodAll_nil r0
  obtain rfl : args = #[v0] := by cases args; simp_all
  obtain ⟨rfl, rfl⟩ := trodVars_none hV
  obtain ⟨a0, len0, cap0, rfl⟩ := okWide_slice Try.underlying61 (hval 0 61 v0 rfl rfl)
  have k0 := h0
  have lt0 : ∀ x ∈ p0, x.block < W.heap.size := by obtain ⟨m, hm⟩ := k0; exact DataW.trod_lt m _ _ _ hm
  obtain ⟨l, rfl, hc, hm, hC, hr⟩ := RowsOpen.open_rows Try.underlying61 Try.underlying55 Try.underlying21 (by kernel_rfl) (by kernel_rfl) h0 21
  clear hA0 hval0 hsz0
  have hp : Pure.Plane l := ⟨by unfold maxLen at hm; omega, fun r hr' => ⟨by have := (hr r hr').1; unfold maxLen at this; omega, fun x hx => Num.i32_of ((hr r hr').2 x hx)⟩⟩
  obtain ⟨k, hk⟩ := Pure.QuantScales l hp
  refine (PQuant.psalterylaw13_QuantScales.calls k a0 cap0 l true W hC hc hk).mono fun e W' ⟨he, bel⟩ => ?_
  subst he
  exact ⟨_, rfl, _, _, _, [], _, [], hW', trodAll_mk1 (shut_bool Try.underlying4 _), (trodAll_cons_mk (Below.trod laidOut (by kernel_rfl) (of_decide_eq_true (by kernel_rfl)) k0 bel lt0) trodAll_mk0), rfl, bel.frame _, fun h => by cases h⟩
theorem over : Rows.quantScalesRow.holds Try.pinned (OpenSpec.ofChange Rows.quantScalesSpec) :=
  OpenClaim.holds_of_wide 11 Try.f11 rfl rfl rfl rfl rfl rfl rfl ⟨rfl, rfl, rfl, rfl, rfl⟩ rfl rfl rfl rfl rfl (by kernel_rfl) Try.func11 (by kernel_rfl)
    (of_decide_eq_true (by kernel_rfl)) (by unfold Func.isWrapper; first | (rw [if_pos (by decide +kernel)]; kernel_rfl) | (rw [if_neg (by decide +kernel)]; exact ⟨rfl, rfl⟩))
    (fun os started H enc _ => lifted os started H enc)
theorem proved : Rows.QuantScalesSaid := over
end Go.Proofs.Ytnaeondfkkiimaa.quantScales
namespace Go.Proofs.Ytnaeondfkkiimaa
/-- The row, under a short name, for the claim. -/
theorem quantScales_holds : Rows.QuantScalesSaid := quantScales.proved
end Go.Proofs.Ytnaeondfkkiimaa
