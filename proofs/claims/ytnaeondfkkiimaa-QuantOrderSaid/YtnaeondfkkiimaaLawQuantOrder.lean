/- The law QuantOrder: for every two planes [][]int32 that can be read and all numbers, psalterylaw13.QuantOrder returns true and leaves its arguments as they were. No condition. -/
import Derived.Test.YtnaeondfkkiimaaRows
import Derived.Test.YtnaeondfkkiimaaPureQuantOrder
import Derived.Test.YtnaeondfkkiimaaRowsOpen
import Derived.WalkKit
import Derived.ProofKit
import Derived.OpenShut
import Derived.ShutString
import Derived.ChangeOld
import Derived.Below
import Derived.SizedLaws
namespace Go.Proofs.Ytnaeondfkkiimaa.quantOrder
open Go.ChangeShapes Go.WideShapes Go.ChangeAt Go.RowKit
set_option linter.unusedVariables false
theorem own : ownKnob Try.prog.godebug = none := by kernel_rfl
theorem laidOut : laidOutB Try.prog = true := by kernel_rfl
set_option maxRecDepth 100000 in
theorem lifted (os : Os) (started : os.Started) (H : Type) (enc : TypeId × Value → H) :
    ReturnsInHanded {} Try.checked os 12 .any (Rows.quantOrderSpec.pre6 enc Try.prog Try.f12 Rows.quantOrderRow.domain false) (Rows.quantOrderSpec.post enc Try.prog Try.f12 false true false false) := by
  refine returnsInHanded_of_change_sized (C := Try.checked) own started (by kernel_rfl) Try.func12
    (ChangeSpec.witness6 (enc := enc) (C := Try.checked) false ⟨#[], #[.int .i32 0, .int .i32 0, .int .i64 0, .int .i64 0, .slice none 0 0, .slice none 0 0], []⟩ 8 (by kernel_rfl) (by kernel_rfl) (by kernel_rfl) (by kernel_rfl)) ?_
  intro W base args ds gs before hval0 hW hcnd hsz0 _
  have hval : ∀ (j : Nat) t v, Try.f12.params[j]? = some t → args[j]? = some v → Value.okWide Try.prog W .any base t v := hval0
  have hW' := hW
  obtain ⟨p, q, hA0, hV, rfl, hfz, hnd⟩ := hW
  have hA : DataW.TrodAll enc Try.prog W 0 (fun _ => true) true Try.f12.params.toList args.toList ds p := hA0
  rw [Try.params12] at hA hval
  obtain ⟨v0, vs0, d0, ds0, p0, q0, hargs, rfl, rfl, h0, r0⟩ := trodAll_cons hA
  obtain ⟨v1, vs1, d1, ds1, p1, q1, rfl, rfl, rfl, h1, r1⟩ := trodAll_cons r0
  obtain ⟨v2, vs2, d2, ds2, p2, q2, rfl, rfl, rfl, h2, r2⟩ := trodAll_cons r1
  obtain ⟨v3, vs3, d3, ds3, p3, q3, rfl, rfl, rfl, h3, r3⟩ := trodAll_cons r2
  obtain ⟨v4, vs4, d4, ds4, p4, q4, rfl, rfl, rfl, h4, r4⟩ := trodAll_cons r3
  obtain ⟨v5, vs5, d5, ds5, p5, q5, rfl, rfl, rfl, h5, r5⟩ := trodAll_cons r4
  obtain ⟨rfl, rfl, rfl⟩ := trodAll_nil r5
  obtain rfl : args = #[v0, v1, v2, v3, v4, v5] := by cases args; simp_all
  obtain ⟨rfl, rfl⟩ := trodVars_none hV
  obtain ⟨x0, rfl, rfl, rfl, wx0⟩ := open_int Try.underlying21 (hval 0 21 v0 rfl rfl) h0
  obtain ⟨x1, rfl, rfl, rfl, wx1⟩ := open_int Try.underlying21 (hval 1 21 v1 rfl rfl) h1
  obtain ⟨x2, rfl, rfl, rfl, wx2⟩ := open_int Try.underlying3 (hval 2 3 v2 rfl rfl) h2
  obtain ⟨x3, rfl, rfl, rfl, wx3⟩ := open_int Try.underlying3 (hval 3 3 v3 rfl rfl) h3
  obtain ⟨a4, len4, cap4, rfl⟩ := okWide_slice Try.underlying61 (hval 4 61 v4 rfl rfl)
  obtain ⟨a5, len5, cap5, rfl⟩ := okWide_slice Try.underlying61 (hval 5 61 v5 rfl rfl)
  have k4 := h4
  have lt4 : ∀ x ∈ p4, x.block < W.heap.size := by obtain ⟨m, hm⟩ := k4; exact DataW.trod_lt m _ _ _ hm
  have k5 := h5
  have lt5 : ∀ x ∈ p5, x.block < W.heap.size := by obtain ⟨m, hm⟩ := k5; exact DataW.trod_lt m _ _ _ hm
  obtain ⟨l4, rfl, hc4, hm4, hC4, hr4⟩ := RowsOpen.open_rows Try.underlying61 Try.underlying55 Try.underlying21 (by kernel_rfl) (by kernel_rfl) h4 21
  obtain ⟨l5, rfl, hc5, hm5, hC5, hr5⟩ := RowsOpen.open_rows Try.underlying61 Try.underlying55 Try.underlying21 (by kernel_rfl) (by kernel_rfl) h5 21
  clear hA0 hval0 hsz0
  have hp4 : PairsLib.Plane l4 := ⟨by unfold maxLen at hm4; omega, fun r hr' => ⟨by have := (hr4 r hr').1; unfold maxLen at this; omega, fun x hx => Num.i32_of ((hr4 r hr').2 x hx)⟩⟩
  have hp5 : PairsLib.Plane l5 := ⟨by unfold maxLen at hm5; omega, fun r hr' => ⟨by have := (hr5 r hr').1; unfold maxLen at this; omega, fun x hx => Num.i32_of ((hr5 r hr').2 x hx)⟩⟩
  have hk := PureQuantOrder.QuantOrder x0 x1 x2 x3 l4 l5 (Num.i32_of wx0).1 (Num.i32_of wx0).2 (Num.i32_of wx1).1 (Num.i32_of wx1).2 hp4 hp5
  refine (PPairs.psalterylaw13_QuantOrder.calls 2000 x0 x1 x2 x3 a4 cap4 l4 a5 cap5 l5 true W hC4 hc4 hC5 hc5 hk).mono fun e W' ⟨he, bel⟩ => ?_
  subst he
  exact ⟨_, rfl, _, _, _, [], _, [], hW', trodAll_mk1 (shut_bool Try.underlying4 _), (trodAll_cons_mk (shut_int Try.underlying21 wx0) (trodAll_cons_mk (shut_int Try.underlying21 wx1) (trodAll_cons_mk (shut_int Try.underlying3 wx2) (trodAll_cons_mk (shut_int Try.underlying3 wx3) (trodAll_cons_mk (Below.trod laidOut (by kernel_rfl) (of_decide_eq_true (by kernel_rfl)) k4 bel lt4) (trodAll_cons_mk (Below.trod laidOut (by kernel_rfl) (of_decide_eq_true (by kernel_rfl)) k5 bel lt5) trodAll_mk0)))))), rfl, bel.frame _, fun h => by cases h⟩
theorem over : Rows.quantOrderRow.holds Try.pinned (OpenSpec.ofChange Rows.quantOrderSpec) :=
  OpenClaim.holds_of_wide 12 Try.f12 rfl rfl rfl rfl rfl rfl rfl ⟨rfl, rfl, rfl, rfl, rfl⟩ rfl rfl rfl rfl rfl (by kernel_rfl) Try.func12 (by kernel_rfl)
    (of_decide_eq_true (by kernel_rfl)) (by unfold Func.isWrapper; first | (rw [if_pos (by decide +kernel)]; kernel_rfl) | (rw [if_neg (by decide +kernel)]; exact ⟨rfl, rfl⟩))
    (fun os started H enc _ => lifted os started H enc)
theorem proved : Rows.QuantOrderSaid := over
end Go.Proofs.Ytnaeondfkkiimaa.quantOrder
namespace Go.Proofs.Ytnaeondfkkiimaa
/-- The row, under a short name, for the claim. -/
theorem quantOrder_holds : Rows.QuantOrderSaid := quantOrder.proved
end Go.Proofs.Ytnaeondfkkiimaa
