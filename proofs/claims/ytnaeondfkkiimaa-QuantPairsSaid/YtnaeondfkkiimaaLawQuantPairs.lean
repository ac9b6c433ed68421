/- The law QuantPairs: for every two planes [][]int32 that can be read, psalterylaw13.QuantPairs returns true and leaves its arguments as they were. No condition. -/
import Derived.Test.YtnaeondfkkiimaaRows
import Derived.Test.YtnaeondfkkiimaaPureQuantPairs
import Derived.Test.YtnaeondfkkiimaaRowsOpen
import Derived.WalkKit
import Derived.ProofKit
import Derived.OpenShut
import Derived.ShutString
import Derived.ChangeOld
import Derived.Below
import Derived.SizedLaws
namespace Go.Proofs.Ytnaeondfkkiimaa.quantPairs
open Go.ChangeShapes Go.WideShapes Go.ChangeAt Go.RowKit
set_option linter.unusedVariables false
theorem own : ownKnob Try.prog.godebug = none := by kernel_rfl
theorem laidOut : laidOutB Try.prog = true := by kernel_rfl
set_option maxRecDepth 100000 in
theorem lifted (os : Os) (started : os.Started) (H : Type) (enc : TypeId × Value → H) :
    ReturnsInHanded {} Try.checked os 14 .any (Rows.quantPairsSpec.pre6 enc Try.prog Try.f14 Rows.quantPairsRow.domain false) (Rows.quantPairsSpec.post enc Try.prog Try.f14 false true false false) := by
  refine returnsInHanded_of_change_sized (C := Try.checked) own started (by kernel_rfl) Try.func14
    (ChangeSpec.witness6 (enc := enc) (C := Try.checked) false ⟨#[], #[.slice none 0 0, .slice none 0 0], []⟩ 8 (by kernel_rfl) (by kernel_rfl) (by kernel_rfl) (by kernel_rfl)) ?_
  intro W base args ds gs before hval0 hW hcnd hsz0 _
  have hval : ∀ (j : Nat) t v, Try.f14.params[j]? = some t → args[j]? = some v → Value.okWide Try.prog W .any base t v := hval0
  have hW' := hW
  obtain ⟨p, q, hA0, hV, rfl, hfz, hnd⟩ := hW
  have hA : DataW.TrodAll enc Try.prog W 0 (fun _ => true) true Try.f14.params.toList args.toList ds p := hA0
  rw [Try.params14] at hA hval
  obtain ⟨v0, vs0, d0, ds0, p0, q0, hargs, rfl, rfl, h0, r0⟩ := trodAll_cons hA
  obtain ⟨v1, vs1, d1, ds1, p1, q1, rfl, rfl, rfl, h1, r1⟩ := trodAll_cons r0
  obtain ⟨rfl, rfl, rfl⟩ := trodAll_nil r1
  obtain rfl : args = #[v0, v1] := by cases args; simp_all
  obtain ⟨rfl, rfl⟩ := trodVars_none hV
  obtain ⟨a0, len0, cap0, rfl⟩ := okWide_slice Try.underlying61 (hval 0 61 v0 rfl rfl)
  obtain ⟨a1, len1, cap1, rfl⟩ := okWide_slice Try.underlying61 (hval 1 61 v1 rfl rfl)
  have k0 := h0
  have lt0 : ∀ x ∈ p0, x.block < W.heap.size := by obtain ⟨m, hm⟩ := k0; exact DataW.trod_lt m _ _ _ hm
  have k1 := h1
  have lt1 : ∀ x ∈ p1, x.block < W.heap.size := by obtain ⟨m, hm⟩ := k1; exact DataW.trod_lt m _ _ _ hm
  obtain ⟨l0, rfl, hc0, hm0, hC0, hr0⟩ := RowsOpen.open_rows Try.underlying61 Try.underlying55 Try.underlying21 (by kernel_rfl) (by kernel_rfl) h0 21
  obtain ⟨l1, rfl, hc1, hm1, hC1, hr1⟩ := RowsOpen.open_rows Try.underlying61 Try.underlying55 Try.underlying21 (by kernel_rfl) (by kernel_rfl) h1 21
  clear hA0 hval0 hsz0
  have hp0 : PairsLib.Plane l0 := ⟨by unfold maxLen at hm0; omega, fun r hr' => ⟨by have := (hr0 r hr').1; unfold maxLen at this; omega, fun x hx => Num.i32_of ((hr0 r hr').2 x hx)⟩⟩
  have hp1 : PairsLib.Plane l1 := ⟨by unfold maxLen at hm1; omega, fun r hr' => ⟨by have := (hr1 r hr').1; unfold maxLen at this; omega, fun x hx => Num.i32_of ((hr1 r hr').2 x hx)⟩⟩
  have hk := PureQuantPairs.QuantPairs l0 l1 hp0 hp1
  refine (PPairs.psalterylaw13_QuantPairs.calls 3000 a0 cap0 l0 a1 cap1 l1 true W hC0 hc0 hC1 hc1 hk).mono fun e W' ⟨he, bel⟩ => ?_
  subst he
  exact ⟨_, rfl, _, _, _, [], _, [], hW', trodAll_mk1 (shut_bool Try.underlying4 _), (trodAll_cons_mk (Below.trod laidOut (by kernel_rfl) (of_decide_eq_true (by kernel_rfl)) k0 bel lt0) (trodAll_cons_mk (Below.trod laidOut (by kernel_rfl) (of_decide_eq_true (by kernel_rfl)) k1 bel lt1) trodAll_mk0)), rfl, bel.frame _, fun h => by cases h⟩
theorem over : Rows.quantPairsRow.holds Try.pinned (OpenSpec.ofChange Rows.quantPairsSpec) :=
  OpenClaim.holds_of_wide 14 Try.f14 rfl rfl rfl rfl rfl rfl rfl ⟨rfl, rfl, rfl, rfl, rfl⟩ rfl rfl rfl rfl rfl (by kernel_rfl) Try.func14 (by kernel_rfl)
    (of_decide_eq_true (by kernel_rfl)) (by unfold Func.isWrapper; first | (rw [if_pos (by decide +kernel)]; kernel_rfl) | (rw [if_neg (by decide +kernel)]; exact ⟨rfl, rfl⟩))
    (fun os started H enc _ => lifted os started H enc)
theorem proved : Rows.QuantPairsSaid := over
end Go.Proofs.Ytnaeondfkkiimaa.quantPairs
namespace Go.Proofs.Ytnaeondfkkiimaa
/-- The row, under a short name, for the claim. -/
theorem quantPairs_holds : Rows.QuantPairsSaid := quantPairs.proved
end Go.Proofs.Ytnaeondfkkiimaa
