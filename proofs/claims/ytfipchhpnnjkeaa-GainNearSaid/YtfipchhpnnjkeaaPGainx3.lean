/- Contracts of the functions that the law Gain reaches: each Go function as a Lean function, and that the Go text comes to it. Written by programs (wip/tools), out of the program's own loaded form. -/
import Derived.Test.YtfipchhpnnjkeaaPGainx0
import Derived.Test.YtfipchhpnnjkeaaPGainx1
import Derived.Test.YtfipchhpnnjkeaaPGainx2
namespace Go.Proofs.Ytfipchhpnnjkeaa.PGain
open Go.RowKit Go.Proofs.YtfipchhpnnjkeaaW.PrintWords Go.Proofs.YtfipchhpnnjkeaaW.PrintLast Go.Proofs.YtfipchhpnnjkeaaW.PrintMore
attribute [local go_sem] max2_int min2_int max_two min_two max_three min_three max_four min_four   -- for this text's walks alone
set_option linter.unusedVariables false
set_option linter.unusedSimpArgs false

/-! ### psalterylaw19_GainSteps: function 3 -/
def psalterylaw19_GainSteps.j0 : Nat → List Int → Int → List Int → Int → Int → Bool → Option (Bool)
  | 0, _, _, _, _, _, _ => none
  | k + 1, x0, x1, x7, x8, x9, x45 => if x45 = true then (some false) else (if (x0.length : Int) > 120 then (if (x7.length : Int) = 0 then (some (x8 == 2)) else (some false)) else (if x9 = 0 then (if (x7.length : Int) = 0 then (some (x8 == 1)) else (some false)) else (if x8 = 0 then ((psalteryref19_Quantise.f k x0 x1).bind fun t167 => ((psalteryref19_Same.f k x7 t167).bind fun t170 => (some t170))) else (some false))))
def psalterylaw19_GainSteps.f (k : Nat) (l0 : List Int) (a1 : Int) : Option (Bool) := (psalterylaw19_alive.f k).bind fun t158 => (if t158 = true then ((psalterylaw19_far.f l0 ([] : List Int)).bind fun t159 => (if t159 = true then (some true) else ((gain_Step.f k a1).bind fun bt160 => ((gain_Quantise.f k l0 a1).bind fun bt162 => ((psalteryref19_Step.f k a1).bind fun t166 => (if (wrap64 (bt160.1)) = t166 then (if ((bt160.2 == 0) != (decide (t166 > 0))) = true then (psalterylaw19_GainSteps.j0 k l0 a1 bt162.1 bt162.2 t166 true) else (if t166 = 0 then (psalterylaw19_GainSteps.j0 k l0 a1 bt162.1 bt162.2 t166 (bt160.2 != 1)) else (psalterylaw19_GainSteps.j0 k l0 a1 bt162.1 bt162.2 t166 false))) else (psalterylaw19_GainSteps.j0 k l0 a1 bt162.1 bt162.2 t166 true))))))) else (some false))
theorem psalterylaw19_GainSteps.mono_l : ∀ k, (∀ y0 y1 y2 y3 y4 y5, LeO (psalterylaw19_GainSteps.j0 k y0 y1 y2 y3 y4 y5) (psalterylaw19_GainSteps.j0 (k + 1) y0 y1 y2 y3 y4 y5))
  | 0 => fun _ _ _ _ _ _ r h => by simp [psalterylaw19_GainSteps.j0] at h
  | k + 1 => by
    have ih0 := psalterylaw19_GainSteps.mono_l k
    · intro y0 y1 y2 y3 y4 y5
      unfold psalterylaw19_GainSteps.j0
      repeat' first
      | (with_reducible exact ih0 _ _ _ _ _ _)
      | (with_reducible exact gain_Quantise.mono _ _ _)
      | (with_reducible exact gain_Step.mono _ _)
      | (with_reducible exact psalterylaw19_alive.mono _)
      | (with_reducible exact psalteryref19_Quantise.mono _ _ _)
      | (with_reducible exact psalteryref19_Same.mono _ _ _)
      | (with_reducible exact psalteryref19_Step.mono _ _)
      | (with_reducible exact LeO.refl _)
      | (with_reducible exact LeO.none _)
      | (with_reducible refine LeO.ite ?_ ?_)
      | (with_reducible refine LeO.bind ?_ (fun _ => ?_))
      | exact ih0 _ _ _ _ _ _
      | exact gain_Quantise.mono _ _ _
      | exact gain_Step.mono _ _
      | exact psalterylaw19_alive.mono _
      | exact psalteryref19_Quantise.mono _ _ _
      | exact psalteryref19_Same.mono _ _ _
      | exact psalteryref19_Step.mono _ _
      | exact LeO.none _
      | refine LeO.ite ?_ ?_
      | refine LeO.bind ?_ (fun _ => ?_)
theorem psalterylaw19_GainSteps.mono : ∀ a0 a1 k, LeO (psalterylaw19_GainSteps.f k a0 a1) (psalterylaw19_GainSteps.f (k + 1) a0 a1) := by
  intro a0 a1 k
  have ih0 := psalterylaw19_GainSteps.mono_l k
  unfold psalterylaw19_GainSteps.f
  repeat' first
      | (with_reducible exact ih0 _ _ _ _ _ _)
      | (with_reducible exact gain_Quantise.mono _ _ _)
      | (with_reducible exact gain_Step.mono _ _)
      | (with_reducible exact psalterylaw19_alive.mono _)
      | (with_reducible exact psalteryref19_Quantise.mono _ _ _)
      | (with_reducible exact psalteryref19_Same.mono _ _ _)
      | (with_reducible exact psalteryref19_Step.mono _ _)
      | (with_reducible exact LeO.refl _)
      | (with_reducible exact LeO.none _)
      | (with_reducible refine LeO.ite ?_ ?_)
      | (with_reducible refine LeO.bind ?_ (fun _ => ?_))
      | exact ih0 _ _ _ _ _ _
      | exact gain_Quantise.mono _ _ _
      | exact gain_Step.mono _ _
      | exact psalterylaw19_alive.mono _
      | exact psalteryref19_Quantise.mono _ _ _
      | exact psalteryref19_Same.mono _ _ _
      | exact psalteryref19_Step.mono _ _
      | exact LeO.none _
      | refine LeO.ite ?_ ?_
      | refine LeO.bind ?_ (fun _ => ?_)
set_option maxHeartbeats 8000000 in
set_option maxRecDepth 100000 in
theorem psalterylaw19_GainSteps.calls (k : Nat) (A0 : Option Addr) (c0 : Nat) (l0 : List Int) (a1 : Int) (r : Bool) (w : World) (hr0 : Kd.C (Kd.int .i32) w A0 l0.length l0) (hc0 : l0.length ≤ c0) (h : psalterylaw19_GainSteps.f k l0 a1 = some r) :
    Calls Try.prog 3 #[.slice A0 l0.length c0, .int .i64 a1] w fun e w' => e = .returned (.bool r) ∧ Below w.heap.size w w' := by
  have HR0 := Aside0.mk hr0
  have HC0 := Aside0.mk hc0
  clear hr0 hc0
  have HB := Aside0.mk (Below.refl w.heap.size w)
  have H : ((psalterylaw19_alive.f k).bind fun t158 => (if t158 = true then ((psalterylaw19_far.f l0 ([] : List Int)).bind fun t159 => (if t159 = true then (some true) else ((gain_Step.f k a1).bind fun bt160 => ((gain_Quantise.f k l0 a1).bind fun bt162 => ((psalteryref19_Step.f k a1).bind fun t166 => (if (wrap64 (bt160.1)) = t166 then (if ((bt160.2 == 0) != (decide (t166 > 0))) = true then (psalterylaw19_GainSteps.j0 k l0 a1 bt162.1 bt162.2 t166 true) else (if t166 = 0 then (psalterylaw19_GainSteps.j0 k l0 a1 bt162.1 bt162.2 t166 (bt160.2 != 1)) else (psalterylaw19_GainSteps.j0 k l0 a1 bt162.1 bt162.2 t166 false))) else (psalterylaw19_GainSteps.j0 k l0 a1 bt162.1 bt162.2 t166 true))))))) else (some false))) = some r := h
  clear h
  replace H := Option.bind_eq_some_iff.mp H
  obtain ⟨t158, A30, H⟩ := H
  replace H : (if t158 = true then ((psalterylaw19_far.f l0 ([] : List Int)).bind fun t159 => (if t159 = true then (some true) else ((gain_Step.f k a1).bind fun bt160 => ((gain_Quantise.f k l0 a1).bind fun bt162 => ((psalteryref19_Step.f k a1).bind fun t166 => (if (wrap64 (bt160.1)) = t166 then (if ((bt160.2 == 0) != (decide (t166 > 0))) = true then (psalterylaw19_GainSteps.j0 k l0 a1 bt162.1 bt162.2 t166 true) else (if t166 = 0 then (psalterylaw19_GainSteps.j0 k l0 a1 bt162.1 bt162.2 t166 (bt160.2 != 1)) else (psalterylaw19_GainSteps.j0 k l0 a1 bt162.1 bt162.2 t166 false))) else (psalterylaw19_GainSteps.j0 k l0 a1 bt162.1 bt162.2 t166 true))))))) else (some false)) = some r := H
  have A3 := Aside0.mk A30
  clear A30
  by_cases c4 : t158 = true
  · subst c4
    have H1 : ((psalterylaw19_far.f l0 ([] : List Int)).bind fun t159 => (if t159 = true then (some true) else ((gain_Step.f k a1).bind fun bt160 => ((gain_Quantise.f k l0 a1).bind fun bt162 => ((psalteryref19_Step.f k a1).bind fun t166 => (if (wrap64 (bt160.1)) = t166 then (if ((bt160.2 == 0) != (decide (t166 > 0))) = true then (psalterylaw19_GainSteps.j0 k l0 a1 bt162.1 bt162.2 t166 true) else (if t166 = 0 then (psalterylaw19_GainSteps.j0 k l0 a1 bt162.1 bt162.2 t166 (bt160.2 != 1)) else (psalterylaw19_GainSteps.j0 k l0 a1 bt162.1 bt162.2 t166 false))) else (psalterylaw19_GainSteps.j0 k l0 a1 bt162.1 bt162.2 t166 true))))))) = some r := by rw [if_pos rfl] at H; exact H
    clear H
    have H := H1
    clear H1
    replace H := Option.bind_eq_some_iff.mp H
    obtain ⟨t159, A50, H⟩ := H
    replace H : (if t159 = true then (some true) else ((gain_Step.f k a1).bind fun bt160 => ((gain_Quantise.f k l0 a1).bind fun bt162 => ((psalteryref19_Step.f k a1).bind fun t166 => (if (wrap64 (bt160.1)) = t166 then (if ((bt160.2 == 0) != (decide (t166 > 0))) = true then (psalterylaw19_GainSteps.j0 k l0 a1 bt162.1 bt162.2 t166 true) else (if t166 = 0 then (psalterylaw19_GainSteps.j0 k l0 a1 bt162.1 bt162.2 t166 (bt160.2 != 1)) else (psalterylaw19_GainSteps.j0 k l0 a1 bt162.1 bt162.2 t166 false))) else (psalterylaw19_GainSteps.j0 k l0 a1 bt162.1 bt162.2 t166 true)))))) = some r := H
    have A5 := Aside0.mk A50
    clear A50
    by_cases c6 : t159 = true
    · subst c6
      have H1 : (some true) = some r := by rw [if_pos rfl] at H; exact H
      clear H
      have H := H1
      clear H1
      obtain rfl := Option.some.inj H
      go_enter Try.func3, Try.ntmps3
      go_wp2_with (first | ((with_reducible refine gate_callee (f := 14) rfl ?_); refine goesL_ (some 10) rfl rfl Try.func14 (by kernel_rfl) rfl #[] rfl (by (try simp only [List.map_toArray, List.map_cons, List.map_nil]); first | done | rfl | (simp only [List.length_drop, List.length_take]; rfl)) ?_; (with_reducible refine (psalterylaw19_alive.calls k  true _ A3.out).mono ?_); rintro e w7 ⟨rfl, hb⟩; refine ⟨_, rfl, ?_⟩; have n0_ := Aside0.mk (below_step (by repeat (first | (with_reducible first | exact HB.out | apply below_alloc | apply pw_below_drewN | apply below_drew1) | exact HB.out)) hb); clear HB; have HB := n0_; clear n0_; (try clear hb); (try clear hb2); (try clear hk); (try clear hi)) | ((with_reducible refine gate_callee (f := 15) rfl ?_); refine goesL_ (some 13) rfl rfl Try.func15 (by kernel_rfl) rfl #[.slice A0 l0.length c0, .slice none 0 0] rfl (by (try simp only [List.map_toArray, List.map_cons, List.map_nil]); first | done | rfl | (simp only [List.length_drop, List.length_take]; rfl)) ?_; (refine (psalterylaw19_far.calls _ _ l0 _ _ ([] : List Int) true _ ?side1 ?side2 ?side3 ?side4 A5.out).mono ?_); (case side1 => repeat (first | exact (Kd.C_below HR0.out HB.out) | (with_reducible refine Kd.C_alloc ?_ _) | (with_reducible refine Kd.C_drewN ?_ _) | (with_reducible refine Kd.C_drew ?_))); (case side2 => exact HC0.out); (case side3 => exact Kd.C_nil _ _); (case side4 => exact Nat.le_refl _); rintro e w' ⟨rfl, ⟨nd, rfl⟩⟩; refine ⟨_, rfl, ?_⟩))
      go_ret
      exact ⟨by first | rfl | (simp [errW_none, errW_some] <;> rfl) | (simp [*, errW_none, errW_some] <;> rfl), by repeat (first | (with_reducible first | exact HB.out | apply below_alloc | apply pw_below_drewN | apply below_drew1) | exact HB.out)⟩
    · replace c6 := Bool.eq_false_iff.mpr c6
      subst c6
      have H1 : ((gain_Step.f k a1).bind fun bt160 => ((gain_Quantise.f k l0 a1).bind fun bt162 => ((psalteryref19_Step.f k a1).bind fun t166 => (if (wrap64 (bt160.1)) = t166 then (if ((bt160.2 == 0) != (decide (t166 > 0))) = true then (psalterylaw19_GainSteps.j0 k l0 a1 bt162.1 bt162.2 t166 true) else (if t166 = 0 then (psalterylaw19_GainSteps.j0 k l0 a1 bt162.1 bt162.2 t166 (bt160.2 != 1)) else (psalterylaw19_GainSteps.j0 k l0 a1 bt162.1 bt162.2 t166 false))) else (psalterylaw19_GainSteps.j0 k l0 a1 bt162.1 bt162.2 t166 true))))) = some r := by rw [if_neg (show ¬ (false = true) by decide)] at H; exact H
      clear H
      have H := H1
      clear H1
      replace H := Option.bind_eq_some_iff.mp H
      obtain ⟨⟨t160, t161⟩, A80, H⟩ := H
      replace H : ((gain_Quantise.f k l0 a1).bind fun bt162 => ((psalteryref19_Step.f k a1).bind fun t166 => (if (wrap64 (t160)) = t166 then (if ((t161 == 0) != (decide (t166 > 0))) = true then (psalterylaw19_GainSteps.j0 k l0 a1 bt162.1 bt162.2 t166 true) else (if t166 = 0 then (psalterylaw19_GainSteps.j0 k l0 a1 bt162.1 bt162.2 t166 (t161 != 1)) else (psalterylaw19_GainSteps.j0 k l0 a1 bt162.1 bt162.2 t166 false))) else (psalterylaw19_GainSteps.j0 k l0 a1 bt162.1 bt162.2 t166 true)))) = some r := H
      have A8 := Aside0.mk A80
      clear A80
      replace H := Option.bind_eq_some_iff.mp H
      obtain ⟨⟨t162, t163⟩, A90, H⟩ := H
      replace H : ((psalteryref19_Step.f k a1).bind fun t166 => (if (wrap64 (t160)) = t166 then (if ((t161 == 0) != (decide (t166 > 0))) = true then (psalterylaw19_GainSteps.j0 k l0 a1 t162 t163 t166 true) else (if t166 = 0 then (psalterylaw19_GainSteps.j0 k l0 a1 t162 t163 t166 (t161 != 1)) else (psalterylaw19_GainSteps.j0 k l0 a1 t162 t163 t166 false))) else (psalterylaw19_GainSteps.j0 k l0 a1 t162 t163 t166 true))) = some r := H
      have A9 := Aside0.mk A90
      clear A90
      replace H := Option.bind_eq_some_iff.mp H
      obtain ⟨t166, A100, H⟩ := H
      replace H : (if (wrap64 (t160)) = t166 then (if ((t161 == 0) != (decide (t166 > 0))) = true then (psalterylaw19_GainSteps.j0 k l0 a1 t162 t163 t166 true) else (if t166 = 0 then (psalterylaw19_GainSteps.j0 k l0 a1 t162 t163 t166 (t161 != 1)) else (psalterylaw19_GainSteps.j0 k l0 a1 t162 t163 t166 false))) else (psalterylaw19_GainSteps.j0 k l0 a1 t162 t163 t166 true)) = some r := H
      have A10 := Aside0.mk A100
      clear A100
      have HC11 := Aside0.mk H
      clear H
      go_enter Try.func3, Try.ntmps3
      go_upto_region 8 with (first | ((with_reducible refine gate_callee (f := 14) rfl ?_); refine goesL_ (some 10) rfl rfl Try.func14 (by kernel_rfl) rfl #[] rfl (by (try simp only [List.map_toArray, List.map_cons, List.map_nil]); first | done | rfl | (simp only [List.length_drop, List.length_take]; rfl)) ?_; (with_reducible refine (psalterylaw19_alive.calls k  true _ A3.out).mono ?_); rintro e w12 ⟨rfl, hb⟩; refine ⟨_, rfl, ?_⟩; have n0_ := Aside0.mk (below_step (by repeat (first | (with_reducible first | exact HB.out | apply below_alloc | apply pw_below_drewN | apply below_drew1) | exact HB.out)) hb); clear HB; have HB := n0_; clear n0_; (try clear hb); (try clear hb2); (try clear hk); (try clear hi)) | ((with_reducible refine gate_callee (f := 15) rfl ?_); refine goesL_ (some 13) rfl rfl Try.func15 (by kernel_rfl) rfl #[.slice A0 l0.length c0, .slice none 0 0] rfl (by (try simp only [List.map_toArray, List.map_cons, List.map_nil]); first | done | rfl | (simp only [List.length_drop, List.length_take]; rfl)) ?_; (refine (psalterylaw19_far.calls _ _ l0 _ _ ([] : List Int) false _ ?side1 ?side2 ?side3 ?side4 A5.out).mono ?_); (case side1 => repeat (first | exact (Kd.C_below HR0.out HB.out) | (with_reducible refine Kd.C_alloc ?_ _) | (with_reducible refine Kd.C_drewN ?_ _) | (with_reducible refine Kd.C_drew ?_))); (case side2 => exact HC0.out); (case side3 => exact Kd.C_nil _ _); (case side4 => exact Nat.le_refl _); rintro e w' ⟨rfl, ⟨nd, rfl⟩⟩; refine ⟨_, rfl, ?_⟩) | ((with_reducible refine gate_callee (f := 16) rfl ?_); refine goesL_ (some 16) rfl rfl Try.func16 (by kernel_rfl) rfl #[.int .i64 a1] rfl (by (try simp only [List.map_toArray, List.map_cons, List.map_nil]); first | done | rfl | (simp only [List.length_drop, List.length_take]; rfl)) ?_; (with_reducible refine (gain_Step.calls k a1 t160 t161 _ A8.out).mono ?_); rintro e w' ⟨rfl, ⟨nd, rfl⟩⟩; refine ⟨_, rfl, ?_⟩) | ((with_reducible refine gate_callee (f := 17) rfl ?_); refine goesL_ (some 22) rfl rfl Try.func17 (by kernel_rfl) rfl #[.slice A0 l0.length c0, .int .i64 a1] rfl (by (try simp only [List.map_toArray, List.map_cons, List.map_nil]); first | done | rfl | (simp only [List.length_drop, List.length_take]; rfl)) ?_; (with_reducible refine (gain_Quantise.calls k _ _ l0 a1 t162 t163 _ ?side1 ?side2 A9.out).mono ?_); (case side1 => repeat (first | exact (Kd.C_below HR0.out (by repeat (first | (with_reducible first | exact HB.out | apply below_alloc | apply pw_below_drewN | apply below_drew1) | exact HB.out))) | (with_reducible refine Kd.C_alloc ?_ _) | (with_reducible refine Kd.C_drewN ?_ _) | (with_reducible refine Kd.C_drew ?_))); (case side2 => exact HC0.out); rintro e w13 ⟨v164, rfl, ho0, hb⟩; refine ⟨_, rfl, ?_⟩; have n0_ := Aside0.mk (Kd.R_lower ho0 (below_size (by repeat (first | (with_reducible first | exact HB.out | apply below_alloc | apply pw_below_drewN | apply below_drew1) | exact HB.out)))); have n1_ := Aside0.mk (below_step (by repeat (first | (with_reducible first | exact HB.out | apply below_alloc | apply pw_below_drewN | apply below_drew1) | exact HB.out)) hb); clear HB; have HO165 := n0_; have HB := n1_; clear n0_ n1_; (try clear hb); (try clear hb2); (try clear hk); (try clear hi); (try clear ho0)) | ((with_reducible refine gate_callee (f := 18) rfl ?_); refine goesL_ (some 26) rfl rfl Try.func18 (by kernel_rfl) rfl #[.int .i64 a1] rfl (by (try simp only [List.map_toArray, List.map_cons, List.map_nil]); first | done | rfl | (simp only [List.length_drop, List.length_take]; rfl)) ?_; (with_reducible refine (psalteryref19_Step.calls k a1 t166 _ A10.out).mono ?_); rintro e w14 ⟨rfl, hb⟩; refine ⟨_, rfl, ?_⟩; have n0_ := Aside0.mk (Kd.R_below (by (with_reducible repeat (first | apply Kd.R_alloc | apply Kd.R_drewN | apply Kd.R_drew)); exact HO165.out) hb); have n1_ := Aside0.mk (below_step (by repeat (first | (with_reducible first | exact HB.out | apply below_alloc | apply pw_below_drewN | apply below_drew1) | exact HB.out)) hb); clear HO165; clear HB; have HO165 := n0_; have HB := n1_; clear n0_ n1_; (try clear hb); (try clear hb2); (try clear hk); (try clear hi)))
      (try simp only [Act.put, List.setIfInBounds_toArray, List.set_cons_zero, List.set_cons_succ])
      go_cut [45] (fun v45 wc => ∃ (kq : Nat) (x45_10 : Bool), v45 = .bool x45_10 ∧ Aside0 (psalterylaw19_GainSteps.j0 kq l0 a1 t162 t163 t166 x45_10 = some r) ∧ Aside0 (kq ≤ k) ∧ Aside0 (Kd.R (Kd.int .i64) 3 wc w.heap.size (fun _ => True) v164 t162) ∧ Aside0 (Below w.heap.size w wc))
      case first =>
        have H := HC11.out
        clear HC11
        by_cases c15 : (wrap64 (t160)) = t166
        · rw [if_pos c15] at H
          have c15b0 : ((wrap64 (t160)) == t166) = true := beq_iff_eq.mpr c15
          have c15b1 : ((wrap64 (t160)) != t166) = false := bne_eq_false_iff_eq.mpr c15
          clear c15
          (first | rw [c15b0] | (simp only [i64_w, i32_w]; rw [c15b0]) | skip)
          by_cases c16 : ((t161 == 0) != (decide (t166 > 0))) = true
          · rw [if_pos c16] at H
            have c16b0 : ((t161 == 0) != (decide (t166 > 0))) = true := c16
            (try (have c16b1 : decide ((t161 == 0) = (decide (t166 > 0))) = false := by simpa using c16))
            (try (have c16b2 : ((t161 == 0) == (decide (t166 > 0))) = false := by simpa using c16))
            (try (have c16b3 : ¬ ((t161 == 0) = (decide (t166 > 0))) := by simpa using c16))
            clear c16
            have H' := Aside0.mk H
            clear H
            go_wp2
            go_meet
            case rel => exact ⟨_, (true), (by first | rfl | (simp; done) | (simp [*]; done)), H', ⟨by first | omega | exact Nat.le_refl _⟩, ⟨by (with_reducible repeat (first | apply Kd.R_alloc | apply Kd.R_drewN | apply Kd.R_drew)); exact HO165.out⟩, ⟨by repeat (first | (with_reducible first | exact HB.out | apply below_alloc | apply pw_below_drewN | apply below_drew1) | exact HB.out)⟩⟩
          · rw [if_neg c16] at H
            have c16b0 : ((t161 == 0) != (decide (t166 > 0))) = false := by simpa using c16
            (try (have c16b1 : decide ((t161 == 0) = (decide (t166 > 0))) = true := by simpa using c16))
            (try (have c16b2 : ((t161 == 0) == (decide (t166 > 0))) = true := by simpa using c16))
            clear c16
            by_cases c17 : t166 = 0
            · rw [if_pos c17] at H
              have c17b0 : (t166 == 0) = true := beq_iff_eq.mpr c17
              have c17b1 : (t166 != 0) = false := bne_eq_false_iff_eq.mpr c17
              clear c17
              have H' := Aside0.mk H
              clear H
              go_wp2
              go_meet
              case rel => exact ⟨_, ((t161 != 1)), (by first | rfl | (simp; done) | (simp [*]; done)), H', ⟨by first | omega | exact Nat.le_refl _⟩, ⟨by (with_reducible repeat (first | apply Kd.R_alloc | apply Kd.R_drewN | apply Kd.R_drew)); exact HO165.out⟩, ⟨by repeat (first | (with_reducible first | exact HB.out | apply below_alloc | apply pw_below_drewN | apply below_drew1) | exact HB.out)⟩⟩
            · rw [if_neg c17] at H
              have c17b0 : (t166 == 0) = false := beq_eq_false_iff_ne.mpr c17
              have c17b1 : (t166 != 0) = true := bne_iff_ne.mpr c17
              have H' := Aside0.mk H
              clear H
              go_wp2
              go_meet
              case rel => exact ⟨_, (false), (by first | rfl | (simp; done) | (simp [*]; done)), H', ⟨by first | omega | exact Nat.le_refl _⟩, ⟨by (with_reducible repeat (first | apply Kd.R_alloc | apply Kd.R_drewN | apply Kd.R_drew)); exact HO165.out⟩, ⟨by repeat (first | (with_reducible first | exact HB.out | apply below_alloc | apply pw_below_drewN | apply below_drew1) | exact HB.out)⟩⟩
        · rw [if_neg c15] at H
          have c15b0 : ((wrap64 (t160)) == t166) = false := beq_eq_false_iff_ne.mpr c15
          have c15b1 : ((wrap64 (t160)) != t166) = true := bne_iff_ne.mpr c15
          (first | rw [c15b0] | (simp only [i64_w, i32_w]; rw [c15b0]) | skip)
          have H' := Aside0.mk H
          clear H
          go_wp2
          go_meet
          case rel => exact ⟨_, (true), (by first | rfl | (simp; done) | (simp [*]; done)), H', ⟨by first | omega | exact Nat.le_refl _⟩, ⟨by (with_reducible repeat (first | apply Kd.R_alloc | apply Kd.R_drewN | apply Kd.R_drew)); exact HO165.out⟩, ⟨by repeat (first | (with_reducible first | exact HB.out | apply below_alloc | apply pw_below_drewN | apply below_drew1) | exact HB.out)⟩⟩
      case rest =>
        clear HC11
        try clear c1
        try clear p2
        try clear c3
        try clear c4
        try clear c6
        try clear p6
        try clear c14
        try clear c15
        try clear c15b0
        try clear c15b1
        try clear c16
        try clear c16b0
        try clear c16b1
        try clear c16b2
        try clear c17
        try clear c17b0
        try clear c17b1
        obtain ⟨kq, x45_10, rfl, HA, HJ10, HO_7, HB⟩ := hcut
        cases kq with
        | zero => exact absurd HA.out (by simp [psalterylaw19_GainSteps.j0])
        | succ kj10 =>
          have H := HA.out
          clear HA
          simp only [psalterylaw19_GainSteps.j0] at H
          by_cases c18 : x45_10 = true
          · subst c18
            have H1 : (some false) = some r := by rw [if_pos rfl] at H; exact H
            clear H
            have H := H1
            clear H1
            obtain rfl := Option.some.inj H
            go_wp2
            go_ret
            exact ⟨by first | rfl | (simp [errW_none, errW_some] <;> rfl) | (simp [*, errW_none, errW_some] <;> rfl), by repeat (first | (with_reducible first | exact HB.out | apply below_alloc | apply pw_below_drewN | apply below_drew1) | exact HB.out)⟩
          · replace c18 := Bool.eq_false_iff.mpr c18
            subst c18
            have H1 : (if (l0.length : Int) > 120 then (if (t162.length : Int) = 0 then (some (t163 == 2)) else (some false)) else (if t166 = 0 then (if (t162.length : Int) = 0 then (some (t163 == 1)) else (some false)) else (if t163 = 0 then ((psalteryref19_Quantise.f kj10 l0 a1).bind fun t167 => ((psalteryref19_Same.f kj10 t162 t167).bind fun t170 => (some t170))) else (some false)))) = some r := by rw [if_neg (show ¬ (false = true) by decide)] at H; exact H
            clear H
            have H := H1
            clear H1
            by_cases c19 : (l0.length : Int) > 120
            · rw [if_pos c19] at H
              have c19b0 : decide (120 < (l0.length : Int)) = true := decide_eq_true c19
              have c19b1 : decide (120 < l0.length) = true := decide_eq_true (by omega)
              clear c19
              by_cases c20 : (t162.length : Int) = 0
              · rw [if_pos c20] at H
                have c20b0 : ((t162.length : Int) == 0) = true := beq_iff_eq.mpr c20
                have c20b1 : ((t162.length : Int) != 0) = false := bne_eq_false_iff_eq.mpr c20
                clear c20
                obtain rfl := Option.some.inj H
                obtain ⟨Ao21, co21, eo21⟩ := Kd.R_slice HO_7.out
                subst eo21
                go_wp2
                go_ret
                exact ⟨by first | rfl | (simp [errW_none, errW_some] <;> rfl) | (simp [*, errW_none, errW_some] <;> rfl), by repeat (first | (with_reducible first | exact HB.out | apply below_alloc | apply pw_below_drewN | apply below_drew1) | exact HB.out)⟩
              · rw [if_neg c20] at H
                have c20b0 : ((t162.length : Int) == 0) = false := beq_eq_false_iff_ne.mpr c20
                have c20b1 : ((t162.length : Int) != 0) = true := bne_iff_ne.mpr c20
                have c20b2 : ¬ (t162 = []) := fun h_ => c20 (by rw [h_]; rfl)
                obtain rfl := Option.some.inj H
                obtain ⟨Ao22, co22, eo22⟩ := Kd.R_slice HO_7.out
                subst eo22
                go_wp2
                go_ret
                exact ⟨by first | rfl | (simp [errW_none, errW_some] <;> rfl) | (simp [*, errW_none, errW_some] <;> rfl), by repeat (first | (with_reducible first | exact HB.out | apply below_alloc | apply pw_below_drewN | apply below_drew1) | exact HB.out)⟩
            · rw [if_neg c19] at H
              have c19b0 : decide (120 < (l0.length : Int)) = false := decide_eq_false c19
              have c19b1 : decide (120 < l0.length) = false := decide_eq_false (by omega)
              clear c19
              by_cases c23 : t166 = 0
              · rw [if_pos c23] at H
                have c23b0 : (t166 == 0) = true := beq_iff_eq.mpr c23
                have c23b1 : (t166 != 0) = false := bne_eq_false_iff_eq.mpr c23
                clear c23
                by_cases c24 : (t162.length : Int) = 0
                · rw [if_pos c24] at H
                  have c24b0 : ((t162.length : Int) == 0) = true := beq_iff_eq.mpr c24
                  have c24b1 : ((t162.length : Int) != 0) = false := bne_eq_false_iff_eq.mpr c24
                  clear c24
                  obtain rfl := Option.some.inj H
                  obtain ⟨Ao25, co25, eo25⟩ := Kd.R_slice HO_7.out
                  subst eo25
                  go_wp2
                  go_ret
                  exact ⟨by first | rfl | (simp [errW_none, errW_some] <;> rfl) | (simp [*, errW_none, errW_some] <;> rfl), by repeat (first | (with_reducible first | exact HB.out | apply below_alloc | apply pw_below_drewN | apply below_drew1) | exact HB.out)⟩
                · rw [if_neg c24] at H
                  have c24b0 : ((t162.length : Int) == 0) = false := beq_eq_false_iff_ne.mpr c24
                  have c24b1 : ((t162.length : Int) != 0) = true := bne_iff_ne.mpr c24
                  have c24b2 : ¬ (t162 = []) := fun h_ => c24 (by rw [h_]; rfl)
                  obtain rfl := Option.some.inj H
                  obtain ⟨Ao26, co26, eo26⟩ := Kd.R_slice HO_7.out
                  subst eo26
                  go_wp2
                  go_ret
                  exact ⟨by first | rfl | (simp [errW_none, errW_some] <;> rfl) | (simp [*, errW_none, errW_some] <;> rfl), by repeat (first | (with_reducible first | exact HB.out | apply below_alloc | apply pw_below_drewN | apply below_drew1) | exact HB.out)⟩
              · rw [if_neg c23] at H
                have c23b0 : (t166 == 0) = false := beq_eq_false_iff_ne.mpr c23
                have c23b1 : (t166 != 0) = true := bne_iff_ne.mpr c23
                by_cases c27 : t163 = 0
                · rw [if_pos c27] at H
                  have c27b0 : (t163 == 0) = true := beq_iff_eq.mpr c27
                  have c27b1 : (t163 != 0) = false := bne_eq_false_iff_eq.mpr c27
                  clear c27
                  replace H := Option.bind_eq_some_iff.mp H
                  obtain ⟨t167, A280, H⟩ := H
                  replace H : ((psalteryref19_Same.f kj10 t162 t167).bind fun t170 => (some t170)) = some r := H
                  have A28 := Aside0.mk A280
                  clear A280
                  replace H := Option.bind_eq_some_iff.mp H
                  obtain ⟨t170, A290, H⟩ := H
                  replace H : (some t170) = some r := H
                  have A29 := Aside0.mk A290
                  clear A290
                  obtain rfl := Option.some.inj H
                  go_wp2_with (first | (go_at_call 20; (with_reducible refine (psalteryref19_Quantise.calls kj10 _ _ l0 a1 t167 _ ?side1 ?side2 A28.out).mono ?_); (case side1 => repeat (first | exact (Kd.C_below HR0.out HB.out) | (with_reducible refine Kd.C_alloc ?_ _) | (with_reducible refine Kd.C_drewN ?_ _) | (with_reducible refine Kd.C_drew ?_))); (case side2 => exact HC0.out); rintro e w30 ⟨v168, rfl, ho0, hb⟩; have n0_ := Aside0.mk (Kd.R_elder' (by (with_reducible repeat (first | apply Kd.R_alloc | apply Kd.R_drewN | apply Kd.R_drew)); exact HO_7.out) (Kd.R_base ho0) hb); have n1_ := Aside0.mk (Kd.R_lower (Kd.R_new' ho0 (Kd.R_lt (by (with_reducible repeat (first | apply Kd.R_alloc | apply Kd.R_drewN | apply Kd.R_drew)); exact HO_7.out))) (below_size (by repeat (first | (with_reducible first | exact HB.out | apply below_alloc | apply pw_below_drewN | apply below_drew1) | exact HB.out)))); have n2_ := Aside0.mk (below_step (by repeat (first | (with_reducible first | exact HB.out | apply below_alloc | apply pw_below_drewN | apply below_drew1) | exact HB.out)) hb); clear HO_7; clear HB; have HO_7 := n0_; have HO169 := n1_; have HB := n2_; clear n0_ n1_ n2_; (try clear hb); (try clear hb2); (try clear hk); (try clear hi); (try clear ho0); obtain ⟨Ao31, co31, eo31⟩ := Kd.R_slice HO_7.out; subst eo31; obtain ⟨Ao32, co32, eo32⟩ := Kd.R_slice HO169.out; subst eo32) | (go_at_call 19; (with_reducible refine (psalteryref19_Same.calls kj10 _ _ t162 _ _ t167 t170 _ ?side1 ?side2 ?side3 ?side4 A29.out).mono ?_); (case side1 => repeat (first | exact (Kd.R_reads' HO_7.out).2.2 | (with_reducible refine Kd.C_alloc ?_ _) | (with_reducible refine Kd.C_drewN ?_ _) | (with_reducible refine Kd.C_drew ?_))); (case side2 => exact (Kd.R_reads' HO_7.out).2.1); (case side3 => repeat (first | exact (Kd.R_reads' HO169.out).2.2 | (with_reducible refine Kd.C_alloc ?_ _) | (with_reducible refine Kd.C_drewN ?_ _) | (with_reducible refine Kd.C_drew ?_))); (case side4 => exact (Kd.R_reads' HO169.out).2.1); rintro e w' ⟨rfl, ⟨nd, rfl⟩⟩))
                  go_ret
                  exact ⟨by first | rfl | (simp [errW_none, errW_some] <;> rfl) | (simp [*, errW_none, errW_some] <;> rfl), by repeat (first | (with_reducible first | exact HB.out | apply below_alloc | apply pw_below_drewN | apply below_drew1) | exact HB.out)⟩
                · rw [if_neg c27] at H
                  have c27b0 : (t163 == 0) = false := beq_eq_false_iff_ne.mpr c27
                  have c27b1 : (t163 != 0) = true := bne_iff_ne.mpr c27
                  obtain rfl := Option.some.inj H
                  go_wp2
                  go_ret
                  exact ⟨by first | rfl | (simp [errW_none, errW_some] <;> rfl) | (simp [*, errW_none, errW_some] <;> rfl), by repeat (first | (with_reducible first | exact HB.out | apply below_alloc | apply pw_below_drewN | apply below_drew1) | exact HB.out)⟩
  · replace c4 := Bool.eq_false_iff.mpr c4
    subst c4
    have H1 : (some false) = some r := by rw [if_neg (show ¬ (false = true) by decide)] at H; exact H
    clear H
    have H := H1
    clear H1
    obtain rfl := Option.some.inj H
    go_enter Try.func3, Try.ntmps3
    go_wp2_with (first | ((with_reducible refine gate_callee (f := 14) rfl ?_); refine goesL_ (some 10) rfl rfl Try.func14 (by kernel_rfl) rfl #[] rfl (by (try simp only [List.map_toArray, List.map_cons, List.map_nil]); first | done | rfl | (simp only [List.length_drop, List.length_take]; rfl)) ?_; (with_reducible refine (psalterylaw19_alive.calls k  false _ A3.out).mono ?_); rintro e w33 ⟨rfl, hb⟩; refine ⟨_, rfl, ?_⟩; have n0_ := Aside0.mk (below_step (by repeat (first | (with_reducible first | exact HB.out | apply below_alloc | apply pw_below_drewN | apply below_drew1) | exact HB.out)) hb); clear HB; have HB := n0_; clear n0_; (try clear hb); (try clear hb2); (try clear hk); (try clear hi)))
    go_ret
    exact ⟨by first | rfl | (simp [errW_none, errW_some] <;> rfl) | (simp [*, errW_none, errW_some] <;> rfl), by repeat (first | (with_reducible first | exact HB.out | apply below_alloc | apply pw_below_drewN | apply below_drew1) | exact HB.out)⟩

/-- THE ONE PURE STATEMENT of psalterylaw19_GainSteps: yours. -/
def psalterylaw19_GainSteps.Pure : Prop := ∀ (l0 : List Int) (a1 : Int), l0.length ≤ maxLen → l0.length * 4 ≤ 140737488351232 → (∀ x ∈ l0, (Lit.int .i32 x).wf = true) → (Lit.int .i64 a1).wf = true → ∃ k, psalterylaw19_GainSteps.f k l0 a1 = some true
theorem psalterylaw19_GainSteps.walk (P : psalterylaw19_GainSteps.Pure) (a0 : Option Addr) (len0 cap0 : Nat) (z0 : List Int) (a1 : Int) (w : World) (w0 : (a0 = none ∧ len0 = 0 ∧ cap0 = 0 ∧ z0 = []) ∨ ∃ x, a0 = some x ∧ len0 ≤ cap0 ∧ cap0 ≤ maxLen ∧ z0.length = cap0 ∧ (∀ i, i < z0.length → w.cell? (x.add i) = some (.int .i32 (z0.getD i 0))) ∧ ∀ n ∈ z0, (Lit.int .i32 n).wf = true) (y0 : len0 * 4 ≤ 140737488351232) (w1 : (Lit.int .i64 a1).wf = true) :
    Calls Try.prog 3 #[.slice a0 len0 cap0, .int .i64 a1] w fun e w' => e = .returned (.bool true) ∧ Below w.heap.size w w' := by
  obtain ⟨l0, rfl, hr0, hm0, hw0, hc0⟩ := ReadsInt.ofRowC w0
  obtain ⟨k, h⟩ := P l0 a1 hm0 y0 hw0 w1
  refine (psalterylaw19_GainSteps.calls k _ _ l0 a1 true w (Kd.C_of_reads (d := (0 : Int)) (h1 := fun _ => rfl) hr0) hc0 h).mono ?_
  rintro e w' ⟨rfl, hd⟩
  exact ⟨rfl, hd⟩

end Go.Proofs.Ytfipchhpnnjkeaa.PGain
