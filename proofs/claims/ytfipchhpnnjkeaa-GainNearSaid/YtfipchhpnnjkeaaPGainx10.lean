/- Contracts of the functions that the law Gain reaches: each Go function as a Lean function, and that the Go text comes to it. Written by programs (wip/tools), out of the program's own loaded form. -/
import Derived.Test.YtfipchhpnnjkeaaPGainx0
import Derived.Test.YtfipchhpnnjkeaaPGainx1
import Derived.Test.YtfipchhpnnjkeaaPGainx6
import Derived.Test.YtfipchhpnnjkeaaPGainx9
namespace Go.Proofs.Ytfipchhpnnjkeaa.PGain
open Go.RowKit Go.Proofs.YtfipchhpnnjkeaaW.PrintWords Go.Proofs.YtfipchhpnnjkeaaW.PrintLast Go.Proofs.YtfipchhpnnjkeaaW.PrintMore
attribute [local go_sem] max2_int min2_int max_two min_two max_three min_three max_four min_four   -- for this text's walks alone
set_option linter.unusedVariables false
set_option linter.unusedSimpArgs false

/-! ### psalterylaw19_GainNear: function 13 -/
mutual
def psalterylaw19_GainNear.j0 : Nat → List Int → List Int → List Int → Int → Bool → Option (Bool)
  | 0, _, _, _, _, _ => none
  | k + 1, x0, x9, x13, x15, x73 => if x73 = true then (some false) else (psalterylaw19_GainNear.l0 k x0 x9 x13 x15 0)
def psalterylaw19_GainNear.l0 : Nat → List Int → List Int → List Int → Int → Int → Option (Bool)
  | 0, _, _, _, _, _ => none
  | k + 1, x0, x9, x13, x15, x17 => if x17 < (x0.length : Int) then (if 0 ≤ x17 then (if x17 < (x9.length : Int) then (if (rd x9 x17) = 0 then (psalterylaw19_GainNear.j2 k x0 x9 x13 x15 x17 true) else (if (rd x9 x17) = 32767 then (psalterylaw19_GainNear.j2 k x0 x9 x13 x15 x17 true) else (psalterylaw19_GainNear.j2 k x0 x9 x13 x15 x17 ((rd x9 x17) == (-32767))))) else (none)) else (none)) else (some true)
def psalterylaw19_GainNear.j2 : Nat → List Int → List Int → List Int → Int → Int → Bool → Option (Bool)
  | 0, _, _, _, _, _, _ => none
  | k + 1, x0, x9, x13, x15, x17, x98 => if x98 = true then (psalterylaw19_GainNear.l0 k x0 x9 x13 x15 (wrap64 (x17 + 1))) else (if 0 ≤ x17 then (if x17 < (x13.length : Int) then (if x17 < (x0.length : Int) then (if (wrap64 ((wrap64 ((wrap64 (rd x13 x17)) - (wrap64 (rd x0 x17)))) * 65536)) > (wrap64 ((wrap64 (x15)) + 32768)) then (some false) else (if (wrap64 ((wrap64 ((wrap64 (rd x13 x17)) - (wrap64 (rd x0 x17)))) * 65536)) < (wrap64 (-(wrap64 ((wrap64 (x15)) + 32768)))) then (some false) else (psalterylaw19_GainNear.l0 k x0 x9 x13 x15 (wrap64 (x17 + 1))))) else (none)) else (none)) else (none))
end
def psalterylaw19_GainNear.f (k : Nat) (l0 : List Int) (a1 : Int) (a2 : Int) (a3 : Int) : Option (Bool) := (psalterylaw19_alive.f k).bind fun t300 => (if t300 = true then ((psalterylaw19_far.f l0 ([] : List Int)).bind fun t301 => (if t301 = true then (some true) else ((gain_Quantise.f k l0 a1).bind fun bt302 => (if bt302.2 = 0 then ((gain_Rests.f k l0 bt302.1 a1 (mx a2 0)).bind fun bt306 => ((gain_Restore.f k bt302.1 a1 bt306.1 (mn (mx a3 0) 7) (bt302.1.length : Int)).bind fun bt310 => ((gain_Step.f k a1).bind fun bt314 => (if bt306.2 = 0 then (if bt310.2 = 0 then (psalterylaw19_GainNear.j0 k l0 bt302.1 bt310.1 bt314.1 ((bt310.1.length : Int) != (l0.length : Int))) else (psalterylaw19_GainNear.j0 k l0 bt302.1 bt310.1 bt314.1 true)) else (psalterylaw19_GainNear.j0 k l0 bt302.1 bt310.1 bt314.1 true))))) else (some ((bt302.1.length : Int) == 0)))))) else (some false))
theorem psalterylaw19_GainNear.mono_l : ∀ k, (∀ y0 y1 y2 y3 y4, LeO (psalterylaw19_GainNear.j0 k y0 y1 y2 y3 y4) (psalterylaw19_GainNear.j0 (k + 1) y0 y1 y2 y3 y4)) ∧ (∀ y0 y1 y2 y3 y4, LeO (psalterylaw19_GainNear.l0 k y0 y1 y2 y3 y4) (psalterylaw19_GainNear.l0 (k + 1) y0 y1 y2 y3 y4)) ∧ (∀ y0 y1 y2 y3 y4 y5, LeO (psalterylaw19_GainNear.j2 k y0 y1 y2 y3 y4 y5) (psalterylaw19_GainNear.j2 (k + 1) y0 y1 y2 y3 y4 y5))
  | 0 => ⟨fun _ _ _ _ _ r h => by simp [psalterylaw19_GainNear.j0] at h, fun _ _ _ _ _ r h => by simp [psalterylaw19_GainNear.l0] at h, fun _ _ _ _ _ _ r h => by simp [psalterylaw19_GainNear.j2] at h⟩
  | k + 1 => by
    obtain ⟨ih0, ih1, ih2⟩ := psalterylaw19_GainNear.mono_l k
    refine ⟨?_, ?_, ?_⟩
    · intro y0 y1 y2 y3 y4
      unfold psalterylaw19_GainNear.j0
      repeat' first
      | (with_reducible exact ih0 _ _ _ _ _)
      | (with_reducible exact ih1 _ _ _ _ _)
      | (with_reducible exact ih2 _ _ _ _ _ _)
      | (with_reducible exact gain_Quantise.mono _ _ _)
      | (with_reducible exact gain_Restore.mono _ _ _ _ _ _)
      | (with_reducible exact gain_Rests.mono _ _ _ _ _)
      | (with_reducible exact gain_Step.mono _ _)
      | (with_reducible exact psalterylaw19_alive.mono _)
      | (with_reducible exact LeO.refl _)
      | (with_reducible exact LeO.none _)
      | (with_reducible refine LeO.ite ?_ ?_)
      | (with_reducible refine LeO.bind ?_ (fun _ => ?_))
      | exact ih0 _ _ _ _ _
      | exact ih1 _ _ _ _ _
      | exact ih2 _ _ _ _ _ _
      | exact gain_Quantise.mono _ _ _
      | exact gain_Restore.mono _ _ _ _ _ _
      | exact gain_Rests.mono _ _ _ _ _
      | exact gain_Step.mono _ _
      | exact psalterylaw19_alive.mono _
      | exact LeO.none _
      | refine LeO.ite ?_ ?_
      | refine LeO.bind ?_ (fun _ => ?_)
    · intro y0 y1 y2 y3 y4
      unfold psalterylaw19_GainNear.l0
      repeat' first
      | (with_reducible exact ih0 _ _ _ _ _)
      | (with_reducible exact ih1 _ _ _ _ _)
      | (with_reducible exact ih2 _ _ _ _ _ _)
      | (with_reducible exact gain_Quantise.mono _ _ _)
      | (with_reducible exact gain_Restore.mono _ _ _ _ _ _)
      | (with_reducible exact gain_Rests.mono _ _ _ _ _)
      | (with_reducible exact gain_Step.mono _ _)
      | (with_reducible exact psalterylaw19_alive.mono _)
      | (with_reducible exact LeO.refl _)
      | (with_reducible exact LeO.none _)
      | (with_reducible refine LeO.ite ?_ ?_)
      | (with_reducible refine LeO.bind ?_ (fun _ => ?_))
      | exact ih0 _ _ _ _ _
      | exact ih1 _ _ _ _ _
      | exact ih2 _ _ _ _ _ _
      | exact gain_Quantise.mono _ _ _
      | exact gain_Restore.mono _ _ _ _ _ _
      | exact gain_Rests.mono _ _ _ _ _
      | exact gain_Step.mono _ _
      | exact psalterylaw19_alive.mono _
      | exact LeO.none _
      | refine LeO.ite ?_ ?_
      | refine LeO.bind ?_ (fun _ => ?_)
    · intro y0 y1 y2 y3 y4 y5
      unfold psalterylaw19_GainNear.j2
      repeat' first
      | (with_reducible exact ih0 _ _ _ _ _)
      | (with_reducible exact ih1 _ _ _ _ _)
      | (with_reducible exact ih2 _ _ _ _ _ _)
      | (with_reducible exact gain_Quantise.mono _ _ _)
      | (with_reducible exact gain_Restore.mono _ _ _ _ _ _)
      | (with_reducible exact gain_Rests.mono _ _ _ _ _)
      | (with_reducible exact gain_Step.mono _ _)
      | (with_reducible exact psalterylaw19_alive.mono _)
      | (with_reducible exact LeO.refl _)
      | (with_reducible exact LeO.none _)
      | (with_reducible refine LeO.ite ?_ ?_)
      | (with_reducible refine LeO.bind ?_ (fun _ => ?_))
      | exact ih0 _ _ _ _ _
      | exact ih1 _ _ _ _ _
      | exact ih2 _ _ _ _ _ _
      | exact gain_Quantise.mono _ _ _
      | exact gain_Restore.mono _ _ _ _ _ _
      | exact gain_Rests.mono _ _ _ _ _
      | exact gain_Step.mono _ _
      | exact psalterylaw19_alive.mono _
      | exact LeO.none _
      | refine LeO.ite ?_ ?_
      | refine LeO.bind ?_ (fun _ => ?_)
theorem psalterylaw19_GainNear.mono : ∀ a0 a1 a2 a3 k, LeO (psalterylaw19_GainNear.f k a0 a1 a2 a3) (psalterylaw19_GainNear.f (k + 1) a0 a1 a2 a3) := by
  intro a0 a1 a2 a3 k
  obtain ⟨ih0, ih1, ih2⟩ := psalterylaw19_GainNear.mono_l k
  unfold psalterylaw19_GainNear.f
  repeat' first
      | (with_reducible exact ih0 _ _ _ _ _)
      | (with_reducible exact ih1 _ _ _ _ _)
      | (with_reducible exact ih2 _ _ _ _ _ _)
      | (with_reducible exact gain_Quantise.mono _ _ _)
      | (with_reducible exact gain_Restore.mono _ _ _ _ _ _)
      | (with_reducible exact gain_Rests.mono _ _ _ _ _)
      | (with_reducible exact gain_Step.mono _ _)
      | (with_reducible exact psalterylaw19_alive.mono _)
      | (with_reducible exact LeO.refl _)
      | (with_reducible exact LeO.none _)
      | (with_reducible refine LeO.ite ?_ ?_)
      | (with_reducible refine LeO.bind ?_ (fun _ => ?_))
      | exact ih0 _ _ _ _ _
      | exact ih1 _ _ _ _ _
      | exact ih2 _ _ _ _ _ _
      | exact gain_Quantise.mono _ _ _
      | exact gain_Restore.mono _ _ _ _ _ _
      | exact gain_Rests.mono _ _ _ _ _
      | exact gain_Step.mono _ _
      | exact psalterylaw19_alive.mono _
      | exact LeO.none _
      | refine LeO.ite ?_ ?_
      | refine LeO.bind ?_ (fun _ => ?_)
set_option maxHeartbeats 8000000 in
set_option maxRecDepth 100000 in
theorem psalterylaw19_GainNear.calls (k : Nat) (A0 : Option Addr) (c0 : Nat) (l0 : List Int) (a1 : Int) (a2 : Int) (a3 : Int) (r : Bool) (w : World) (hr0 : Kd.C (Kd.int .i32) w A0 l0.length l0) (hc0 : l0.length ≤ c0) (h : psalterylaw19_GainNear.f k l0 a1 a2 a3 = some r) :
    Calls Try.prog 13 #[.slice A0 l0.length c0, .int .i64 a1, .int .i64 a2, .int .i64 a3] w fun e w' => e = .returned (.bool r) ∧ Below w.heap.size w w' := by
  have HR0 := Aside0.mk hr0
  have HC0 := Aside0.mk hc0
  clear hr0 hc0
  have HB := Aside0.mk (Below.refl w.heap.size w)
  have H : ((psalterylaw19_alive.f k).bind fun t300 => (if t300 = true then ((psalterylaw19_far.f l0 ([] : List Int)).bind fun t301 => (if t301 = true then (some true) else ((gain_Quantise.f k l0 a1).bind fun bt302 => (if bt302.2 = 0 then ((gain_Rests.f k l0 bt302.1 a1 (mx a2 0)).bind fun bt306 => ((gain_Restore.f k bt302.1 a1 bt306.1 (mn (mx a3 0) 7) (bt302.1.length : Int)).bind fun bt310 => ((gain_Step.f k a1).bind fun bt314 => (if bt306.2 = 0 then (if bt310.2 = 0 then (psalterylaw19_GainNear.j0 k l0 bt302.1 bt310.1 bt314.1 ((bt310.1.length : Int) != (l0.length : Int))) else (psalterylaw19_GainNear.j0 k l0 bt302.1 bt310.1 bt314.1 true)) else (psalterylaw19_GainNear.j0 k l0 bt302.1 bt310.1 bt314.1 true))))) else (some ((bt302.1.length : Int) == 0)))))) else (some false))) = some r := h
  clear h
  replace H := Option.bind_eq_some_iff.mp H
  obtain ⟨t300, A50, H⟩ := H
  replace H : (if t300 = true then ((psalterylaw19_far.f l0 ([] : List Int)).bind fun t301 => (if t301 = true then (some true) else ((gain_Quantise.f k l0 a1).bind fun bt302 => (if bt302.2 = 0 then ((gain_Rests.f k l0 bt302.1 a1 (mx a2 0)).bind fun bt306 => ((gain_Restore.f k bt302.1 a1 bt306.1 (mn (mx a3 0) 7) (bt302.1.length : Int)).bind fun bt310 => ((gain_Step.f k a1).bind fun bt314 => (if bt306.2 = 0 then (if bt310.2 = 0 then (psalterylaw19_GainNear.j0 k l0 bt302.1 bt310.1 bt314.1 ((bt310.1.length : Int) != (l0.length : Int))) else (psalterylaw19_GainNear.j0 k l0 bt302.1 bt310.1 bt314.1 true)) else (psalterylaw19_GainNear.j0 k l0 bt302.1 bt310.1 bt314.1 true))))) else (some ((bt302.1.length : Int) == 0)))))) else (some false)) = some r := H
  have A5 := Aside0.mk A50
  clear A50
  by_cases c6 : t300 = true
  · subst c6
    have H1 : ((psalterylaw19_far.f l0 ([] : List Int)).bind fun t301 => (if t301 = true then (some true) else ((gain_Quantise.f k l0 a1).bind fun bt302 => (if bt302.2 = 0 then ((gain_Rests.f k l0 bt302.1 a1 (mx a2 0)).bind fun bt306 => ((gain_Restore.f k bt302.1 a1 bt306.1 (mn (mx a3 0) 7) (bt302.1.length : Int)).bind fun bt310 => ((gain_Step.f k a1).bind fun bt314 => (if bt306.2 = 0 then (if bt310.2 = 0 then (psalterylaw19_GainNear.j0 k l0 bt302.1 bt310.1 bt314.1 ((bt310.1.length : Int) != (l0.length : Int))) else (psalterylaw19_GainNear.j0 k l0 bt302.1 bt310.1 bt314.1 true)) else (psalterylaw19_GainNear.j0 k l0 bt302.1 bt310.1 bt314.1 true))))) else (some ((bt302.1.length : Int) == 0)))))) = some r := by rw [if_pos rfl] at H; exact H
    clear H
    have H := H1
    clear H1
    replace H := Option.bind_eq_some_iff.mp H
    obtain ⟨t301, A70, H⟩ := H
    replace H : (if t301 = true then (some true) else ((gain_Quantise.f k l0 a1).bind fun bt302 => (if bt302.2 = 0 then ((gain_Rests.f k l0 bt302.1 a1 (mx a2 0)).bind fun bt306 => ((gain_Restore.f k bt302.1 a1 bt306.1 (mn (mx a3 0) 7) (bt302.1.length : Int)).bind fun bt310 => ((gain_Step.f k a1).bind fun bt314 => (if bt306.2 = 0 then (if bt310.2 = 0 then (psalterylaw19_GainNear.j0 k l0 bt302.1 bt310.1 bt314.1 ((bt310.1.length : Int) != (l0.length : Int))) else (psalterylaw19_GainNear.j0 k l0 bt302.1 bt310.1 bt314.1 true)) else (psalterylaw19_GainNear.j0 k l0 bt302.1 bt310.1 bt314.1 true))))) else (some ((bt302.1.length : Int) == 0))))) = some r := H
    have A7 := Aside0.mk A70
    clear A70
    by_cases c8 : t301 = true
    · subst c8
      have H1 : (some true) = some r := by rw [if_pos rfl] at H; exact H
      clear H
      have H := H1
      clear H1
      obtain rfl := Option.some.inj H
      go_enter Try.func13, Try.ntmps13
      go_wp2_with (first | (go_at_call 14; (with_reducible refine (psalterylaw19_alive.calls k  true _ A5.out).mono ?_); rintro e w9 ⟨rfl, hb⟩; have n0_ := Aside0.mk (below_step (by repeat (first | (with_reducible first | exact HB.out | apply below_alloc | apply pw_below_drewN | apply below_drew1) | exact HB.out)) hb); clear HB; have HB := n0_; clear n0_; (try clear hb); (try clear hb2); (try clear hk); (try clear hi)) | (go_at_call 15; (refine (psalterylaw19_far.calls _ _ l0 _ _ ([] : List Int) true _ ?side1 ?side2 ?side3 ?side4 A7.out).mono ?_); (case side1 => repeat (first | exact (Kd.C_below HR0.out HB.out) | (with_reducible refine Kd.C_alloc ?_ _) | (with_reducible refine Kd.C_drewN ?_ _) | (with_reducible refine Kd.C_drew ?_))); (case side2 => exact HC0.out); (case side3 => exact Kd.C_nil _ _); (case side4 => exact Nat.le_refl _); rintro e w' ⟨rfl, ⟨nd, rfl⟩⟩; (try first | exact ⟨rfl, _, World.drewN_drewN _ _ _⟩ | exact ⟨rfl, _, Eq.trans (World.drewN_drewN _ _ _) (congrArg (World.drewN _) (Nat.add_assoc _ _ _))⟩)))
      repeat (go_quiet (first | (go_at_call 14; (with_reducible refine (psalterylaw19_alive.calls k  true _ A5.out).mono ?_); rintro e w9 ⟨rfl, hb⟩; have n0_ := Aside0.mk (below_step (by repeat (first | (with_reducible first | exact HB.out | apply below_alloc | apply pw_below_drewN | apply below_drew1) | exact HB.out)) hb); clear HB; have HB := n0_; clear n0_; (try clear hb); (try clear hb2); (try clear hk); (try clear hi)) | (go_at_call 15; (refine (psalterylaw19_far.calls _ _ l0 _ _ ([] : List Int) true _ ?side1 ?side2 ?side3 ?side4 A7.out).mono ?_); (case side1 => repeat (first | exact (Kd.C_below HR0.out HB.out) | (with_reducible refine Kd.C_alloc ?_ _) | (with_reducible refine Kd.C_drewN ?_ _) | (with_reducible refine Kd.C_drew ?_))); (case side2 => exact HC0.out); (case side3 => exact Kd.C_nil _ _); (case side4 => exact Nat.le_refl _); rintro e w' ⟨rfl, ⟨nd, rfl⟩⟩; (try first | exact ⟨rfl, _, World.drewN_drewN _ _ _⟩ | exact ⟨rfl, _, Eq.trans (World.drewN_drewN _ _ _) (congrArg (World.drewN _) (Nat.add_assoc _ _ _))⟩))); try go_wp2_with (first | (go_at_call 14; (with_reducible refine (psalterylaw19_alive.calls k  true _ A5.out).mono ?_); rintro e w9 ⟨rfl, hb⟩; have n0_ := Aside0.mk (below_step (by repeat (first | (with_reducible first | exact HB.out | apply below_alloc | apply pw_below_drewN | apply below_drew1) | exact HB.out)) hb); clear HB; have HB := n0_; clear n0_; (try clear hb); (try clear hb2); (try clear hk); (try clear hi)) | (go_at_call 15; (refine (psalterylaw19_far.calls _ _ l0 _ _ ([] : List Int) true _ ?side1 ?side2 ?side3 ?side4 A7.out).mono ?_); (case side1 => repeat (first | exact (Kd.C_below HR0.out HB.out) | (with_reducible refine Kd.C_alloc ?_ _) | (with_reducible refine Kd.C_drewN ?_ _) | (with_reducible refine Kd.C_drew ?_))); (case side2 => exact HC0.out); (case side3 => exact Kd.C_nil _ _); (case side4 => exact Nat.le_refl _); rintro e w' ⟨rfl, ⟨nd, rfl⟩⟩; (try first | exact ⟨rfl, _, World.drewN_drewN _ _ _⟩ | exact ⟨rfl, _, Eq.trans (World.drewN_drewN _ _ _) (congrArg (World.drewN _) (Nat.add_assoc _ _ _))⟩))))
      go_ret
      exact ⟨by first | rfl | (simp [errW_none, errW_some] <;> rfl) | (simp [*, errW_none, errW_some] <;> rfl), by repeat (first | (with_reducible first | exact HB.out | apply below_alloc | apply pw_below_drewN | apply below_drew1) | exact HB.out)⟩
    · replace c8 := Bool.eq_false_iff.mpr c8
      subst c8
      have H1 : ((gain_Quantise.f k l0 a1).bind fun bt302 => (if bt302.2 = 0 then ((gain_Rests.f k l0 bt302.1 a1 (mx a2 0)).bind fun bt306 => ((gain_Restore.f k bt302.1 a1 bt306.1 (mn (mx a3 0) 7) (bt302.1.length : Int)).bind fun bt310 => ((gain_Step.f k a1).bind fun bt314 => (if bt306.2 = 0 then (if bt310.2 = 0 then (psalterylaw19_GainNear.j0 k l0 bt302.1 bt310.1 bt314.1 ((bt310.1.length : Int) != (l0.length : Int))) else (psalterylaw19_GainNear.j0 k l0 bt302.1 bt310.1 bt314.1 true)) else (psalterylaw19_GainNear.j0 k l0 bt302.1 bt310.1 bt314.1 true))))) else (some ((bt302.1.length : Int) == 0)))) = some r := by rw [if_neg (show ¬ (false = true) by decide)] at H; exact H
      clear H
      have H := H1
      clear H1
      replace H := Option.bind_eq_some_iff.mp H
      obtain ⟨⟨t302, t303⟩, A100, H⟩ := H
      replace H : (if t303 = 0 then ((gain_Rests.f k l0 t302 a1 (mx a2 0)).bind fun bt306 => ((gain_Restore.f k t302 a1 bt306.1 (mn (mx a3 0) 7) (t302.length : Int)).bind fun bt310 => ((gain_Step.f k a1).bind fun bt314 => (if bt306.2 = 0 then (if bt310.2 = 0 then (psalterylaw19_GainNear.j0 k l0 t302 bt310.1 bt314.1 ((bt310.1.length : Int) != (l0.length : Int))) else (psalterylaw19_GainNear.j0 k l0 t302 bt310.1 bt314.1 true)) else (psalterylaw19_GainNear.j0 k l0 t302 bt310.1 bt314.1 true))))) else (some ((t302.length : Int) == 0))) = some r := H
      have A10 := Aside0.mk A100
      clear A100
      by_cases c11 : t303 = 0
      · rw [if_pos c11] at H
        have c11b0 : (t303 == 0) = true := beq_iff_eq.mpr c11
        have c11b1 : (t303 != 0) = false := bne_eq_false_iff_eq.mpr c11
        clear c11
        obtain ⟨ji12, hji12⟩ : ∃ j_ : Int, (mx a2 0) = j_ := ⟨_, rfl⟩
        replace H : ((gain_Rests.f k l0 t302 a1 (ji12)).bind fun bt306 => ((gain_Restore.f k t302 a1 bt306.1 (mn (mx a3 0) 7) (t302.length : Int)).bind fun bt310 => ((gain_Step.f k a1).bind fun bt314 => (if bt306.2 = 0 then (if bt310.2 = 0 then (psalterylaw19_GainNear.j0 k l0 t302 bt310.1 bt314.1 ((bt310.1.length : Int) != (l0.length : Int))) else (psalterylaw19_GainNear.j0 k l0 t302 bt310.1 bt314.1 true)) else (psalterylaw19_GainNear.j0 k l0 t302 bt310.1 bt314.1 true))))) = some r := by first | (rw [hji12] at H; exact H) | (simp only [hji12] at H ⊢; exact H)
        (try rw [hji12] at A5)
        (try rw [hji12] at A7)
        (try rw [hji12] at A10)
        (try (have hji12l : 0 ≤ ji12 := by (rw [← hji12]; unfold mx; (repeat' split) <;> omega)))
        (try (have hji12m : 0 ≤ ji12 := by omega))
        have hji12_ : (if a2 < 0 then 0 else a2) = ji12 := hji12
        replace H := Option.bind_eq_some_iff.mp H
        obtain ⟨⟨t306, t307⟩, A130, H⟩ := H
        replace H : ((gain_Restore.f k t302 a1 t306 (mn (mx a3 0) 7) (t302.length : Int)).bind fun bt310 => ((gain_Step.f k a1).bind fun bt314 => (if t307 = 0 then (if bt310.2 = 0 then (psalterylaw19_GainNear.j0 k l0 t302 bt310.1 bt314.1 ((bt310.1.length : Int) != (l0.length : Int))) else (psalterylaw19_GainNear.j0 k l0 t302 bt310.1 bt314.1 true)) else (psalterylaw19_GainNear.j0 k l0 t302 bt310.1 bt314.1 true)))) = some r := H
        have A13 := Aside0.mk A130
        clear A130
        obtain ⟨ji14, hji14⟩ : ∃ j_ : Int, (mx a3 0) = j_ := ⟨_, rfl⟩
        replace H : ((gain_Restore.f k t302 a1 t306 (mn (ji14) 7) (t302.length : Int)).bind fun bt310 => ((gain_Step.f k a1).bind fun bt314 => (if t307 = 0 then (if bt310.2 = 0 then (psalterylaw19_GainNear.j0 k l0 t302 bt310.1 bt314.1 ((bt310.1.length : Int) != (l0.length : Int))) else (psalterylaw19_GainNear.j0 k l0 t302 bt310.1 bt314.1 true)) else (psalterylaw19_GainNear.j0 k l0 t302 bt310.1 bt314.1 true)))) = some r := by first | (rw [hji14] at H; exact H) | (simp only [hji14] at H ⊢; exact H)
        (try rw [hji14] at A5)
        (try rw [hji14] at A7)
        (try rw [hji14] at A10)
        (try rw [hji14] at A13)
        (try (have hji14l : 0 ≤ ji14 := by (rw [← hji14]; unfold mx; (repeat' split) <;> omega)))
        (try (have hji14m : 0 ≤ ji14 := by omega))
        have hji14_ : (if a3 < 0 then 0 else a3) = ji14 := hji14
        obtain ⟨ji15, hji15⟩ : ∃ j_ : Int, (mn (ji14) 7) = j_ := ⟨_, rfl⟩
        replace H : ((gain_Restore.f k t302 a1 t306 (ji15) (t302.length : Int)).bind fun bt310 => ((gain_Step.f k a1).bind fun bt314 => (if t307 = 0 then (if bt310.2 = 0 then (psalterylaw19_GainNear.j0 k l0 t302 bt310.1 bt314.1 ((bt310.1.length : Int) != (l0.length : Int))) else (psalterylaw19_GainNear.j0 k l0 t302 bt310.1 bt314.1 true)) else (psalterylaw19_GainNear.j0 k l0 t302 bt310.1 bt314.1 true)))) = some r := by first | (rw [hji15] at H; exact H) | (simp only [hji15] at H ⊢; exact H)
        (try rw [hji15] at A5)
        (try rw [hji15] at A7)
        (try rw [hji15] at A10)
        (try rw [hji15] at A13)
        have hji15_ : (if 7 < (ji14) then 7 else (ji14)) = ji15 := hji15
        replace H := Option.bind_eq_some_iff.mp H
        obtain ⟨⟨t310, t313⟩, A160, H⟩ := H
        replace H : ((gain_Step.f k a1).bind fun bt314 => (if t307 = 0 then (if t313 = 0 then (psalterylaw19_GainNear.j0 k l0 t302 t310 bt314.1 ((t310.length : Int) != (l0.length : Int))) else (psalterylaw19_GainNear.j0 k l0 t302 t310 bt314.1 true)) else (psalterylaw19_GainNear.j0 k l0 t302 t310 bt314.1 true))) = some r := H
        have A16 := Aside0.mk A160
        clear A160
        replace H := Option.bind_eq_some_iff.mp H
        obtain ⟨⟨t314, t315⟩, A170, H⟩ := H
        replace H : (if t307 = 0 then (if t313 = 0 then (psalterylaw19_GainNear.j0 k l0 t302 t310 t314 ((t310.length : Int) != (l0.length : Int))) else (psalterylaw19_GainNear.j0 k l0 t302 t310 t314 true)) else (psalterylaw19_GainNear.j0 k l0 t302 t310 t314 true)) = some r := H
        have A17 := Aside0.mk A170
        clear A170
        have HC18 := Aside0.mk H
        clear H
        go_enter Try.func13, Try.ntmps13
        go_upto_region 11 with (first | (go_at_call 14; (with_reducible refine (psalterylaw19_alive.calls k  true _ A5.out).mono ?_); rintro e w19 ⟨rfl, hb⟩; have n0_ := Aside0.mk (below_step (by repeat (first | (with_reducible first | exact HB.out | apply below_alloc | apply pw_below_drewN | apply below_drew1) | exact HB.out)) hb); clear HB; have HB := n0_; clear n0_; (try clear hb); (try clear hb2); (try clear hk); (try clear hi)) | (go_at_call 15; (refine (psalterylaw19_far.calls _ _ l0 _ _ ([] : List Int) false _ ?side1 ?side2 ?side3 ?side4 A7.out).mono ?_); (case side1 => repeat (first | exact (Kd.C_below HR0.out HB.out) | (with_reducible refine Kd.C_alloc ?_ _) | (with_reducible refine Kd.C_drewN ?_ _) | (with_reducible refine Kd.C_drew ?_))); (case side2 => exact HC0.out); (case side3 => exact Kd.C_nil _ _); (case side4 => exact Nat.le_refl _); rintro e w' ⟨rfl, ⟨nd, rfl⟩⟩; (try first | exact ⟨rfl, _, World.drewN_drewN _ _ _⟩ | exact ⟨rfl, _, Eq.trans (World.drewN_drewN _ _ _) (congrArg (World.drewN _) (Nat.add_assoc _ _ _))⟩)) | (go_at_call 17; (with_reducible refine (gain_Quantise.calls k _ _ l0 a1 t302 t303 _ ?side1 ?side2 A10.out).mono ?_); (case side1 => repeat (first | exact (Kd.C_below HR0.out (by repeat (first | (with_reducible first | exact HB.out | apply below_alloc | apply pw_below_drewN | apply below_drew1) | exact HB.out))) | (with_reducible refine Kd.C_alloc ?_ _) | (with_reducible refine Kd.C_drewN ?_ _) | (with_reducible refine Kd.C_drew ?_))); (case side2 => exact HC0.out); rintro e w20 ⟨v304, rfl, ho0, hb⟩; have n0_ := Aside0.mk (Kd.R_lower ho0 (below_size (by repeat (first | (with_reducible first | exact HB.out | apply below_alloc | apply pw_below_drewN | apply below_drew1) | exact HB.out)))); have n1_ := Aside0.mk (below_step (by repeat (first | (with_reducible first | exact HB.out | apply below_alloc | apply pw_below_drewN | apply below_drew1) | exact HB.out)) hb); clear HB; have HO305 := n0_; have HB := n1_; clear n0_ n1_; (try clear hb); (try clear hb2); (try clear hk); (try clear hi); (try clear ho0); obtain ⟨Ao21, co21, eo21⟩ := Kd.R_slice HO305.out; subst eo21) | (go_at_call 46; (with_reducible refine (gain_Rests.calls k _ _ l0 _ _ t302 a1 ji12 t306 t307 _ ?side1 ?side2 ?side3 ?side4 A13.out).mono ?_); (case side1 => repeat (first | exact (Kd.C_below HR0.out HB.out) | (with_reducible refine Kd.C_alloc ?_ _) | (with_reducible refine Kd.C_drewN ?_ _) | (with_reducible refine Kd.C_drew ?_))); (case side2 => exact HC0.out); (case side3 => repeat (first | exact (Kd.R_reads' HO305.out).2.2 | (with_reducible refine Kd.C_alloc ?_ _) | (with_reducible refine Kd.C_drewN ?_ _) | (with_reducible refine Kd.C_drew ?_))); (case side4 => exact (Kd.R_reads' HO305.out).2.1); rintro e w22 ⟨v308, rfl, ho0, hb⟩; have n0_ := Aside0.mk (Kd.R_elder' (by (with_reducible repeat (first | apply Kd.R_alloc | apply Kd.R_drewN | apply Kd.R_drew)); exact HO305.out) (Kd.R_base ho0) hb); have n1_ := Aside0.mk (Kd.R_lower (Kd.R_new' ho0 (Kd.R_lt (by (with_reducible repeat (first | apply Kd.R_alloc | apply Kd.R_drewN | apply Kd.R_drew)); exact HO305.out))) (below_size (by repeat (first | (with_reducible first | exact HB.out | apply below_alloc | apply pw_below_drewN | apply below_drew1) | exact HB.out)))); have n2_ := Aside0.mk (below_step (by repeat (first | (with_reducible first | exact HB.out | apply below_alloc | apply pw_below_drewN | apply below_drew1) | exact HB.out)) hb); clear HO305; clear HB; have HO305 := n0_; have HO309 := n1_; have HB := n2_; clear n0_ n1_ n2_; (try clear hb); (try clear hb2); (try clear hk); (try clear hi); (try clear ho0); obtain ⟨Ao23, co23, eo23⟩ := Kd.R_slice HO309.out; subst eo23) | (go_at_call 43; (with_reducible refine (gain_Restore.calls k _ _ t302 a1 (fun k_ => some k_ = (.slice Ao23 t306.length co23 : Value).ownBlock) _ _ t306 ji15 (t302.length : Int) t310 t313 _ ?side1 ?side2 ?side3 A16.out).mono ?_); (case side1 => repeat (first | exact (Kd.R_reads' HO305.out).2.2 | (with_reducible refine Kd.C_alloc ?_ _) | (with_reducible refine Kd.C_drewN ?_ _) | (with_reducible refine Kd.C_drew ?_))); (case side2 => exact (Kd.R_reads' HO305.out).2.1); (case side3 => exact Kd.R_V (Kd.R_tight rfl (HO309.out))); rintro e w24 ⟨v311, rfl, ho0, hb⟩; have n0_ := Aside0.mk (Kd.R_below (by (with_reducible repeat (first | apply Kd.R_alloc | apply Kd.R_drewN | apply Kd.R_drew)); exact HO305.out) hb); have n1_ := Aside0.mk (Kd.R_below (by (with_reducible repeat (first | apply Kd.R_alloc | apply Kd.R_drewN | apply Kd.R_drew)); exact HO309.out) hb); have n2_ := Aside0.mk (Kd.R_lower (Kd.R_mono (ok' := fun k_ => True) ho0 (fun _ hk_ => trivial)) (below_size (by repeat (first | (with_reducible first | exact HB.out | apply below_alloc | apply pw_below_drewN | apply below_drew1) | exact HB.out)))); have n3_ := Aside0.mk (below_step (by repeat (first | (with_reducible first | exact HB.out | apply below_alloc | apply pw_below_drewN | apply below_drew1) | exact HB.out)) hb); clear HO305; clear HO309; clear HB; have HO305 := n0_; have HO309 := n1_; have HO312 := n2_; have HB := n3_; clear n0_ n1_ n2_ n3_; (try clear hb); (try clear hb2); (try clear hk); (try clear hi); (try clear ho0)) | (go_at_call 16; (with_reducible refine (gain_Step.calls k a1 t314 t315 _ A17.out).mono ?_); rintro e w' ⟨rfl, ⟨nd, rfl⟩⟩; (try first | exact ⟨rfl, _, World.drewN_drewN _ _ _⟩ | exact ⟨rfl, _, Eq.trans (World.drewN_drewN _ _ _) (congrArg (World.drewN _) (Nat.add_assoc _ _ _))⟩)))
        repeat (go_quiet (first | (go_at_call 14; (with_reducible refine (psalterylaw19_alive.calls k  true _ A5.out).mono ?_); rintro e w19 ⟨rfl, hb⟩; have n0_ := Aside0.mk (below_step (by repeat (first | (with_reducible first | exact HB.out | apply below_alloc | apply pw_below_drewN | apply below_drew1) | exact HB.out)) hb); clear HB; have HB := n0_; clear n0_; (try clear hb); (try clear hb2); (try clear hk); (try clear hi)) | (go_at_call 15; (refine (psalterylaw19_far.calls _ _ l0 _ _ ([] : List Int) false _ ?side1 ?side2 ?side3 ?side4 A7.out).mono ?_); (case side1 => repeat (first | exact (Kd.C_below HR0.out HB.out) | (with_reducible refine Kd.C_alloc ?_ _) | (with_reducible refine Kd.C_drewN ?_ _) | (with_reducible refine Kd.C_drew ?_))); (case side2 => exact HC0.out); (case side3 => exact Kd.C_nil _ _); (case side4 => exact Nat.le_refl _); rintro e w' ⟨rfl, ⟨nd, rfl⟩⟩; (try first | exact ⟨rfl, _, World.drewN_drewN _ _ _⟩ | exact ⟨rfl, _, Eq.trans (World.drewN_drewN _ _ _) (congrArg (World.drewN _) (Nat.add_assoc _ _ _))⟩)) | (go_at_call 17; (with_reducible refine (gain_Quantise.calls k _ _ l0 a1 t302 t303 _ ?side1 ?side2 A10.out).mono ?_); (case side1 => repeat (first | exact (Kd.C_below HR0.out (by repeat (first | (with_reducible first | exact HB.out | apply below_alloc | apply pw_below_drewN | apply below_drew1) | exact HB.out))) | (with_reducible refine Kd.C_alloc ?_ _) | (with_reducible refine Kd.C_drewN ?_ _) | (with_reducible refine Kd.C_drew ?_))); (case side2 => exact HC0.out); rintro e w20 ⟨v304, rfl, ho0, hb⟩; have n0_ := Aside0.mk (Kd.R_lower ho0 (below_size (by repeat (first | (with_reducible first | exact HB.out | apply below_alloc | apply pw_below_drewN | apply below_drew1) | exact HB.out)))); have n1_ := Aside0.mk (below_step (by repeat (first | (with_reducible first | exact HB.out | apply below_alloc | apply pw_below_drewN | apply below_drew1) | exact HB.out)) hb); clear HB; have HO305 := n0_; have HB := n1_; clear n0_ n1_; (try clear hb); (try clear hb2); (try clear hk); (try clear hi); (try clear ho0); obtain ⟨Ao21, co21, eo21⟩ := Kd.R_slice HO305.out; subst eo21) | (go_at_call 46; (with_reducible refine (gain_Rests.calls k _ _ l0 _ _ t302 a1 ji12 t306 t307 _ ?side1 ?side2 ?side3 ?side4 A13.out).mono ?_); (case side1 => repeat (first | exact (Kd.C_below HR0.out HB.out) | (with_reducible refine Kd.C_alloc ?_ _) | (with_reducible refine Kd.C_drewN ?_ _) | (with_reducible refine Kd.C_drew ?_))); (case side2 => exact HC0.out); (case side3 => repeat (first | exact (Kd.R_reads' HO305.out).2.2 | (with_reducible refine Kd.C_alloc ?_ _) | (with_reducible refine Kd.C_drewN ?_ _) | (with_reducible refine Kd.C_drew ?_))); (case side4 => exact (Kd.R_reads' HO305.out).2.1); rintro e w22 ⟨v308, rfl, ho0, hb⟩; have n0_ := Aside0.mk (Kd.R_elder' (by (with_reducible repeat (first | apply Kd.R_alloc | apply Kd.R_drewN | apply Kd.R_drew)); exact HO305.out) (Kd.R_base ho0) hb); have n1_ := Aside0.mk (Kd.R_lower (Kd.R_new' ho0 (Kd.R_lt (by (with_reducible repeat (first | apply Kd.R_alloc | apply Kd.R_drewN | apply Kd.R_drew)); exact HO305.out))) (below_size (by repeat (first | (with_reducible first | exact HB.out | apply below_alloc | apply pw_below_drewN | apply below_drew1) | exact HB.out)))); have n2_ := Aside0.mk (below_step (by repeat (first | (with_reducible first | exact HB.out | apply below_alloc | apply pw_below_drewN | apply below_drew1) | exact HB.out)) hb); clear HO305; clear HB; have HO305 := n0_; have HO309 := n1_; have HB := n2_; clear n0_ n1_ n2_; (try clear hb); (try clear hb2); (try clear hk); (try clear hi); (try clear ho0); obtain ⟨Ao23, co23, eo23⟩ := Kd.R_slice HO309.out; subst eo23) | (go_at_call 43; (with_reducible refine (gain_Restore.calls k _ _ t302 a1 (fun k_ => some k_ = (.slice Ao23 t306.length co23 : Value).ownBlock) _ _ t306 ji15 (t302.length : Int) t310 t313 _ ?side1 ?side2 ?side3 A16.out).mono ?_); (case side1 => repeat (first | exact (Kd.R_reads' HO305.out).2.2 | (with_reducible refine Kd.C_alloc ?_ _) | (with_reducible refine Kd.C_drewN ?_ _) | (with_reducible refine Kd.C_drew ?_))); (case side2 => exact (Kd.R_reads' HO305.out).2.1); (case side3 => exact Kd.R_V (Kd.R_tight rfl (HO309.out))); rintro e w24 ⟨v311, rfl, ho0, hb⟩; have n0_ := Aside0.mk (Kd.R_below (by (with_reducible repeat (first | apply Kd.R_alloc | apply Kd.R_drewN | apply Kd.R_drew)); exact HO305.out) hb); have n1_ := Aside0.mk (Kd.R_below (by (with_reducible repeat (first | apply Kd.R_alloc | apply Kd.R_drewN | apply Kd.R_drew)); exact HO309.out) hb); have n2_ := Aside0.mk (Kd.R_lower (Kd.R_mono (ok' := fun k_ => True) ho0 (fun _ hk_ => trivial)) (below_size (by repeat (first | (with_reducible first | exact HB.out | apply below_alloc | apply pw_below_drewN | apply below_drew1) | exact HB.out)))); have n3_ := Aside0.mk (below_step (by repeat (first | (with_reducible first | exact HB.out | apply below_alloc | apply pw_below_drewN | apply below_drew1) | exact HB.out)) hb); clear HO305; clear HO309; clear HB; have HO305 := n0_; have HO309 := n1_; have HO312 := n2_; have HB := n3_; clear n0_ n1_ n2_ n3_; (try clear hb); (try clear hb2); (try clear hk); (try clear hi); (try clear ho0)) | (go_at_call 16; (with_reducible refine (gain_Step.calls k a1 t314 t315 _ A17.out).mono ?_); rintro e w' ⟨rfl, ⟨nd, rfl⟩⟩; (try first | exact ⟨rfl, _, World.drewN_drewN _ _ _⟩ | exact ⟨rfl, _, Eq.trans (World.drewN_drewN _ _ _) (congrArg (World.drewN _) (Nat.add_assoc _ _ _))⟩))); go_upto_region 11 with (first | (go_at_call 14; (with_reducible refine (psalterylaw19_alive.calls k  true _ A5.out).mono ?_); rintro e w19 ⟨rfl, hb⟩; have n0_ := Aside0.mk (below_step (by repeat (first | (with_reducible first | exact HB.out | apply below_alloc | apply pw_below_drewN | apply below_drew1) | exact HB.out)) hb); clear HB; have HB := n0_; clear n0_; (try clear hb); (try clear hb2); (try clear hk); (try clear hi)) | (go_at_call 15; (refine (psalterylaw19_far.calls _ _ l0 _ _ ([] : List Int) false _ ?side1 ?side2 ?side3 ?side4 A7.out).mono ?_); (case side1 => repeat (first | exact (Kd.C_below HR0.out HB.out) | (with_reducible refine Kd.C_alloc ?_ _) | (with_reducible refine Kd.C_drewN ?_ _) | (with_reducible refine Kd.C_drew ?_))); (case side2 => exact HC0.out); (case side3 => exact Kd.C_nil _ _); (case side4 => exact Nat.le_refl _); rintro e w' ⟨rfl, ⟨nd, rfl⟩⟩; (try first | exact ⟨rfl, _, World.drewN_drewN _ _ _⟩ | exact ⟨rfl, _, Eq.trans (World.drewN_drewN _ _ _) (congrArg (World.drewN _) (Nat.add_assoc _ _ _))⟩)) | (go_at_call 17; (with_reducible refine (gain_Quantise.calls k _ _ l0 a1 t302 t303 _ ?side1 ?side2 A10.out).mono ?_); (case side1 => repeat (first | exact (Kd.C_below HR0.out (by repeat (first | (with_reducible first | exact HB.out | apply below_alloc | apply pw_below_drewN | apply below_drew1) | exact HB.out))) | (with_reducible refine Kd.C_alloc ?_ _) | (with_reducible refine Kd.C_drewN ?_ _) | (with_reducible refine Kd.C_drew ?_))); (case side2 => exact HC0.out); rintro e w20 ⟨v304, rfl, ho0, hb⟩; have n0_ := Aside0.mk (Kd.R_lower ho0 (below_size (by repeat (first | (with_reducible first | exact HB.out | apply below_alloc | apply pw_below_drewN | apply below_drew1) | exact HB.out)))); have n1_ := Aside0.mk (below_step (by repeat (first | (with_reducible first | exact HB.out | apply below_alloc | apply pw_below_drewN | apply below_drew1) | exact HB.out)) hb); clear HB; have HO305 := n0_; have HB := n1_; clear n0_ n1_; (try clear hb); (try clear hb2); (try clear hk); (try clear hi); (try clear ho0); obtain ⟨Ao21, co21, eo21⟩ := Kd.R_slice HO305.out; subst eo21) | (go_at_call 46; (with_reducible refine (gain_Rests.calls k _ _ l0 _ _ t302 a1 ji12 t306 t307 _ ?side1 ?side2 ?side3 ?side4 A13.out).mono ?_); (case side1 => repeat (first | exact (Kd.C_below HR0.out HB.out) | (with_reducible refine Kd.C_alloc ?_ _) | (with_reducible refine Kd.C_drewN ?_ _) | (with_reducible refine Kd.C_drew ?_))); (case side2 => exact HC0.out); (case side3 => repeat (first | exact (Kd.R_reads' HO305.out).2.2 | (with_reducible refine Kd.C_alloc ?_ _) | (with_reducible refine Kd.C_drewN ?_ _) | (with_reducible refine Kd.C_drew ?_))); (case side4 => exact (Kd.R_reads' HO305.out).2.1); rintro e w22 ⟨v308, rfl, ho0, hb⟩; have n0_ := Aside0.mk (Kd.R_elder' (by (with_reducible repeat (first | apply Kd.R_alloc | apply Kd.R_drewN | apply Kd.R_drew)); exact HO305.out) (Kd.R_base ho0) hb); have n1_ := Aside0.mk (Kd.R_lower (Kd.R_new' ho0 (Kd.R_lt (by (with_reducible repeat (first | apply Kd.R_alloc | apply Kd.R_drewN | apply Kd.R_drew)); exact HO305.out))) (below_size (by repeat (first | (with_reducible first | exact HB.out | apply below_alloc | apply pw_below_drewN | apply below_drew1) | exact HB.out)))); have n2_ := Aside0.mk (below_step (by repeat (first | (with_reducible first | exact HB.out | apply below_alloc | apply pw_below_drewN | apply below_drew1) | exact HB.out)) hb); clear HO305; clear HB; have HO305 := n0_; have HO309 := n1_; have HB := n2_; clear n0_ n1_ n2_; (try clear hb); (try clear hb2); (try clear hk); (try clear hi); (try clear ho0); obtain ⟨Ao23, co23, eo23⟩ := Kd.R_slice HO309.out; subst eo23) | (go_at_call 43; (with_reducible refine (gain_Restore.calls k _ _ t302 a1 (fun k_ => some k_ = (.slice Ao23 t306.length co23 : Value).ownBlock) _ _ t306 ji15 (t302.length : Int) t310 t313 _ ?side1 ?side2 ?side3 A16.out).mono ?_); (case side1 => repeat (first | exact (Kd.R_reads' HO305.out).2.2 | (with_reducible refine Kd.C_alloc ?_ _) | (with_reducible refine Kd.C_drewN ?_ _) | (with_reducible refine Kd.C_drew ?_))); (case side2 => exact (Kd.R_reads' HO305.out).2.1); (case side3 => exact Kd.R_V (Kd.R_tight rfl (HO309.out))); rintro e w24 ⟨v311, rfl, ho0, hb⟩; have n0_ := Aside0.mk (Kd.R_below (by (with_reducible repeat (first | apply Kd.R_alloc | apply Kd.R_drewN | apply Kd.R_drew)); exact HO305.out) hb); have n1_ := Aside0.mk (Kd.R_below (by (with_reducible repeat (first | apply Kd.R_alloc | apply Kd.R_drewN | apply Kd.R_drew)); exact HO309.out) hb); have n2_ := Aside0.mk (Kd.R_lower (Kd.R_mono (ok' := fun k_ => True) ho0 (fun _ hk_ => trivial)) (below_size (by repeat (first | (with_reducible first | exact HB.out | apply below_alloc | apply pw_below_drewN | apply below_drew1) | exact HB.out)))); have n3_ := Aside0.mk (below_step (by repeat (first | (with_reducible first | exact HB.out | apply below_alloc | apply pw_below_drewN | apply below_drew1) | exact HB.out)) hb); clear HO305; clear HO309; clear HB; have HO305 := n0_; have HO309 := n1_; have HO312 := n2_; have HB := n3_; clear n0_ n1_ n2_ n3_; (try clear hb); (try clear hb2); (try clear hk); (try clear hi); (try clear ho0)) | (go_at_call 16; (with_reducible refine (gain_Step.calls k a1 t314 t315 _ A17.out).mono ?_); rintro e w' ⟨rfl, ⟨nd, rfl⟩⟩; (try first | exact ⟨rfl, _, World.drewN_drewN _ _ _⟩ | exact ⟨rfl, _, Eq.trans (World.drewN_drewN _ _ _) (congrArg (World.drewN _) (Nat.add_assoc _ _ _))⟩))))
        (try simp only [Act.put, List.setIfInBounds_toArray, List.set_cons_zero, List.set_cons_succ])
        go_cut [73] (fun v73 wc => ∃ (kq : Nat) (x73_17 : Bool), v73 = .bool x73_17 ∧ Aside0 (psalterylaw19_GainNear.j0 kq l0 t302 t310 t314 x73_17 = some r) ∧ Aside0 (kq ≤ k) ∧ Aside0 (Kd.R (Kd.int .i64) 3 wc w.heap.size (fun _ => True) (.slice Ao21 t302.length co21) t302) ∧ Aside0 (Kd.R (Kd.int .i32) 21 wc w.heap.size (fun _ => True) v311 t310) ∧ Aside0 (Below w.heap.size w wc))
        case first =>
          have H := HC18.out
          clear HC18
          by_cases c25 : t307 = 0
          · rw [if_pos c25] at H
            have c25b0 : (t307 == 0) = true := beq_iff_eq.mpr c25
            have c25b1 : (t307 != 0) = false := bne_eq_false_iff_eq.mpr c25
            clear c25
            (first | rw [c25b0] | (simp only [i64_w, i32_w]; rw [c25b0]) | skip)
            by_cases c26 : t313 = 0
            · rw [if_pos c26] at H
              have c26b0 : (t313 == 0) = true := beq_iff_eq.mpr c26
              have c26b1 : (t313 != 0) = false := bne_eq_false_iff_eq.mpr c26
              clear c26
              have H' := Aside0.mk H
              clear H
              obtain ⟨Ao27, co27, eo27⟩ := Kd.R_slice HO312.out
              subst eo27
              go_wp2
              repeat (go_quiet (fail); try go_wp2)
              go_meet
              case rel => exact ⟨_, (((t310.length : Int) != (l0.length : Int))), (by first | rfl | (simp; done) | (simp [*]; done)), H', ⟨by first | omega | exact Nat.le_refl _⟩, ⟨by (with_reducible repeat (first | apply Kd.R_alloc | apply Kd.R_drewN | apply Kd.R_drew)); exact Kd.R_mono HO305.out (fun _ hk => trivial)⟩, ⟨by (with_reducible repeat (first | apply Kd.R_alloc | apply Kd.R_drewN | apply Kd.R_drew)); exact HO312.out⟩, ⟨by repeat (first | (with_reducible first | exact HB.out | apply below_alloc | apply pw_below_drewN | apply below_drew1) | exact HB.out)⟩⟩
            · rw [if_neg c26] at H
              have c26b0 : (t313 == 0) = false := beq_eq_false_iff_ne.mpr c26
              have c26b1 : (t313 != 0) = true := bne_iff_ne.mpr c26
              have H' := Aside0.mk H
              clear H
              go_wp2
              repeat (go_quiet (fail); try go_wp2)
              go_meet
              case rel => exact ⟨_, (true), (by first | rfl | (simp; done) | (simp [*]; done)), H', ⟨by first | omega | exact Nat.le_refl _⟩, ⟨by (with_reducible repeat (first | apply Kd.R_alloc | apply Kd.R_drewN | apply Kd.R_drew)); exact Kd.R_mono HO305.out (fun _ hk => trivial)⟩, ⟨by (with_reducible repeat (first | apply Kd.R_alloc | apply Kd.R_drewN | apply Kd.R_drew)); exact HO312.out⟩, ⟨by repeat (first | (with_reducible first | exact HB.out | apply below_alloc | apply pw_below_drewN | apply below_drew1) | exact HB.out)⟩⟩
          · rw [if_neg c25] at H
            have c25b0 : (t307 == 0) = false := beq_eq_false_iff_ne.mpr c25
            have c25b1 : (t307 != 0) = true := bne_iff_ne.mpr c25
            (first | rw [c25b0] | (simp only [i64_w, i32_w]; rw [c25b0]) | skip)
            have H' := Aside0.mk H
            clear H
            go_wp2
            repeat (go_quiet (fail); try go_wp2)
            go_meet
            case rel => exact ⟨_, (true), (by first | rfl | (simp; done) | (simp [*]; done)), H', ⟨by first | omega | exact Nat.le_refl _⟩, ⟨by (with_reducible repeat (first | apply Kd.R_alloc | apply Kd.R_drewN | apply Kd.R_drew)); exact Kd.R_mono HO305.out (fun _ hk => trivial)⟩, ⟨by (with_reducible repeat (first | apply Kd.R_alloc | apply Kd.R_drewN | apply Kd.R_drew)); exact HO312.out⟩, ⟨by repeat (first | (with_reducible first | exact HB.out | apply below_alloc | apply pw_below_drewN | apply below_drew1) | exact HB.out)⟩⟩
        case rest =>
          clear HC18
          try clear c1
          try clear c2
          try clear p2
          try clear c6
          try clear c8
          try clear c11
          try clear c11b0
          try clear c11b1
          try clear c13
          try clear c25
          try clear c25b0
          try clear c25b1
          try clear c26
          try clear c26b0
          try clear c26b1
          obtain ⟨kq, x73_17, rfl, HA, HJ17, HO_9, HO_13, HB⟩ := hcut
          cases kq with
          | zero => exact absurd HA.out (by simp [psalterylaw19_GainNear.j0])
          | succ kj17 =>
            have H := HA.out
            clear HA
            simp only [psalterylaw19_GainNear.j0] at H
            by_cases c28 : x73_17 = true
            · subst c28
              have H1 : (some false) = some r := by rw [if_pos rfl] at H; exact H
              clear H
              have H := H1
              clear H1
              obtain rfl := Option.some.inj H
              go_wp2
              repeat (go_quiet (fail); try go_wp2)
              go_ret
              exact ⟨by first | rfl | (simp [errW_none, errW_some] <;> rfl) | (simp only [← hji12, ← hji14, ← hji15]; first | rfl | (simp [errW_none, errW_some] <;> rfl)) | (simp [*, errW_none, errW_some] <;> rfl), by repeat (first | (with_reducible first | exact HB.out | apply below_alloc | apply pw_below_drewN | apply below_drew1) | exact HB.out)⟩
            · replace c28 := Bool.eq_false_iff.mpr c28
              subst c28
              have H1 : (psalterylaw19_GainNear.l0 kj17 l0 t302 t310 t314 0) = some r := by rw [if_neg (show ¬ (false = true) by decide)] at H; exact H
              clear H
              have H := H1
              clear H1
              have H' := Aside0.mk H
              clear H
              go_wp2
              repeat (go_quiet (fail); try go_wp2)
              go_loopg [17] kj17 (fun kq v17 w' => ∃ (x17_2 : Int), v17 = .int .i64 x17_2 ∧ Aside0 (psalterylaw19_GainNear.l0 kq l0 t302 t310 t314 x17_2 = some r) ∧ Aside0 (kq ≤ kj17) ∧ Aside0 (Kd.R (Kd.int .i64) 3 w' w.heap.size (fun _ => True) (.slice Ao21 t302.length co21) t302) ∧ Aside0 (Kd.R (Kd.int .i32) 21 w' w.heap.size (fun _ => True) v311 t310) ∧ Aside0 (Below w.heap.size w w'))
              case atStart => exact ⟨(0), (by first | rfl | (simp; done) | (simp [*]; done)), H', ⟨Nat.le_refl _⟩, ⟨by (with_reducible repeat (first | apply Kd.R_alloc | apply Kd.R_drewN | apply Kd.R_drew)); exact HO_9.out⟩, ⟨by (with_reducible repeat (first | apply Kd.R_alloc | apply Kd.R_drewN | apply Kd.R_drew)); exact HO_13.out⟩, ⟨by repeat (first | (with_reducible first | exact HB.out | apply below_alloc | apply pw_below_drewN | apply below_drew1) | exact HB.out)⟩⟩
              case round =>
                clear H'
                try clear c1
                try clear c2
                try clear p2
                try clear c6
                try clear c8
                try clear c11
                try clear c11b0
                try clear c11b1
                try clear c13
                try clear c25
                try clear c25b0
                try clear c25b1
                try clear c26
                try clear c26b0
                try clear c26b1
                try clear c28
                try clear p2
                obtain ⟨x17_2, rfl, HA, HK2, HO_9, HO_13, HB⟩ := hrel
                cases gk with
                | zero => exact absurd HA.out (by simp [psalterylaw19_GainNear.l0])
                | succ k2 =>
                  have H := HA.out
                  clear HA
                  simp only [psalterylaw19_GainNear.l0] at H
                  by_cases c29 : x17_2 < (l0.length : Int)
                  · rw [if_pos c29] at H
                    have c29b0 : decide (x17_2 < (l0.length : Int)) = true := decide_eq_true c29
                    clear c29
                    have HC30 := Aside0.mk H
                    clear H
                    go_upto_region 16 with (fail)
                    repeat (go_quiet (fail); go_upto_region 16 with (fail))
                    go_cut [98] (fun v98 wc => ∃ (kq : Nat) (x98_29 : Bool), v98 = .bool x98_29 ∧ Aside0 (psalterylaw19_GainNear.j2 kq l0 t302 t310 t314 x17_2 x98_29 = some r) ∧ Aside0 (kq ≤ k2) ∧ Aside0 (Kd.R (Kd.int .i64) 3 wc w.heap.size (fun _ => True) (.slice Ao21 t302.length co21) t302) ∧ Aside0 (Kd.R (Kd.int .i32) 21 wc w.heap.size (fun _ => True) v311 t310) ∧ Aside0 (Below w.heap.size w wc))
                    case first =>
                      have H := HC30.out
                      clear HC30
                      by_cases c31 : 0 ≤ x17_2
                      · rw [if_pos c31] at H
                        have c31b0 : decide (0 ≤ x17_2) = true := decide_eq_true c31
                        clear c31
                        (first | rw [c31b0] | (simp only [i64_w, i32_w]; rw [c31b0]) | skip)
                        by_cases c32 : x17_2 < (t302.length : Int)
                        · rw [if_pos c32] at H
                          have c32b0 : decide (x17_2 < (t302.length : Int)) = true := decide_eq_true c32
                          clear c32
                          by_cases c33 : (rd t302 x17_2) = 0
                          · rw [if_pos c33] at H
                            have c33b0 : ((rd t302 x17_2) == 0) = true := beq_iff_eq.mpr c33
                            have c33b1 : ((rd t302 x17_2) != 0) = false := bne_eq_false_iff_eq.mpr c33
                            clear c33
                            have H' := Aside0.mk H
                            clear H
                            have p316 : 0 ≤ (x17_2 : Int) := of_decide_eq_true (by first | (with_reducible assumption) | assumption)
                            have q316 : x17_2 < (t302.length : Int) := of_decide_eq_true (by first | (with_reducible assumption) | assumption)
                            obtain ⟨ad316, e316, hx316_0⟩ := Kd.at_int (Kd.R_reads' HO_9.out).2.2 x17_2 p316 q316
                            cases e316
                            replace p316 := eq_true p316
                            replace q316 := eq_true q316
                            go_wp2
                            repeat (go_quiet (fail); try go_wp2)
                            go_meet
                            case rel => exact ⟨_, (true), (by first | rfl | (simp; done) | (simp [*]; done)), H', ⟨by have := HJ17.out; have := HK2.out; first | omega | exact Nat.le_refl _⟩, ⟨by (with_reducible repeat (first | apply Kd.R_alloc | apply Kd.R_drewN | apply Kd.R_drew)); exact HO_9.out⟩, ⟨by (with_reducible repeat (first | apply Kd.R_alloc | apply Kd.R_drewN | apply Kd.R_drew)); exact HO_13.out⟩, ⟨by repeat (first | (with_reducible first | exact HB.out | apply below_alloc | apply pw_below_drewN | apply below_drew1) | exact HB.out)⟩⟩
                          · rw [if_neg c33] at H
                            have c33b0 : ((rd t302 x17_2) == 0) = false := beq_eq_false_iff_ne.mpr c33
                            have c33b1 : ((rd t302 x17_2) != 0) = true := bne_iff_ne.mpr c33
                            by_cases c34 : (rd t302 x17_2) = 32767
                            · rw [if_pos c34] at H
                              have c34b0 : ((rd t302 x17_2) == 32767) = true := beq_iff_eq.mpr c34
                              have c34b1 : ((rd t302 x17_2) != 32767) = false := bne_eq_false_iff_eq.mpr c34
                              clear c34
                              have H' := Aside0.mk H
                              clear H
                              have p316 : 0 ≤ (x17_2 : Int) := of_decide_eq_true (by first | (with_reducible assumption) | assumption)
                              have q316 : x17_2 < (t302.length : Int) := of_decide_eq_true (by first | (with_reducible assumption) | assumption)
                              obtain ⟨ad316, e316, hx316_0⟩ := Kd.at_int (Kd.R_reads' HO_9.out).2.2 x17_2 p316 q316
                              cases e316
                              replace p316 := eq_true p316
                              replace q316 := eq_true q316
                              have p317 : 0 ≤ (x17_2 : Int) := of_decide_eq_true (by first | (with_reducible assumption) | assumption)
                              have q317 : x17_2 < (t302.length : Int) := of_decide_eq_true (by first | (with_reducible assumption) | assumption)
                              obtain ⟨ad317, e317, hx317_0⟩ := Kd.at_int (Kd.R_reads' HO_9.out).2.2 x17_2 p317 q317
                              obtain rfl : ad316 = ad317 := (by injection e317)
                              replace p317 := eq_true p317
                              replace q317 := eq_true q317
                              go_wp2
                              repeat (go_quiet (fail); try go_wp2)
                              go_meet
                              case rel => exact ⟨_, (true), (by first | rfl | (simp; done) | (simp [*]; done)), H', ⟨by have := HJ17.out; have := HK2.out; first | omega | exact Nat.le_refl _⟩, ⟨by (with_reducible repeat (first | apply Kd.R_alloc | apply Kd.R_drewN | apply Kd.R_drew)); exact HO_9.out⟩, ⟨by (with_reducible repeat (first | apply Kd.R_alloc | apply Kd.R_drewN | apply Kd.R_drew)); exact HO_13.out⟩, ⟨by repeat (first | (with_reducible first | exact HB.out | apply below_alloc | apply pw_below_drewN | apply below_drew1) | exact HB.out)⟩⟩
                            · rw [if_neg c34] at H
                              have c34b0 : ((rd t302 x17_2) == 32767) = false := beq_eq_false_iff_ne.mpr c34
                              have c34b1 : ((rd t302 x17_2) != 32767) = true := bne_iff_ne.mpr c34
                              have H' := Aside0.mk H
                              clear H
                              have p316 : 0 ≤ (x17_2 : Int) := of_decide_eq_true (by first | (with_reducible assumption) | assumption)
                              have q316 : x17_2 < (t302.length : Int) := of_decide_eq_true (by first | (with_reducible assumption) | assumption)
                              obtain ⟨ad316, e316, hx316_0⟩ := Kd.at_int (Kd.R_reads' HO_9.out).2.2 x17_2 p316 q316
                              cases e316
                              replace p316 := eq_true p316
                              replace q316 := eq_true q316
                              have p317 : 0 ≤ (x17_2 : Int) := of_decide_eq_true (by first | (with_reducible assumption) | assumption)
                              have q317 : x17_2 < (t302.length : Int) := of_decide_eq_true (by first | (with_reducible assumption) | assumption)
                              obtain ⟨ad317, e317, hx317_0⟩ := Kd.at_int (Kd.R_reads' HO_9.out).2.2 x17_2 p317 q317
                              obtain rfl : ad316 = ad317 := (by injection e317)
                              replace p317 := eq_true p317
                              replace q317 := eq_true q317
                              have p318 : 0 ≤ (x17_2 : Int) := of_decide_eq_true (by first | (with_reducible assumption) | assumption)
                              have q318 : x17_2 < (t302.length : Int) := of_decide_eq_true (by first | (with_reducible assumption) | assumption)
                              obtain ⟨ad318, e318, hx318_0⟩ := Kd.at_int (Kd.R_reads' HO_9.out).2.2 x17_2 p318 q318
                              obtain rfl : ad316 = ad318 := (by injection e318)
                              replace p318 := eq_true p318
                              replace q318 := eq_true q318
                              go_wp2
                              repeat (go_quiet (fail); try go_wp2)
                              go_meet
                              case rel => exact ⟨_, (((rd t302 x17_2) == (-32767))), (by first | rfl | (simp; done) | (simp [*]; done)), H', ⟨by have := HJ17.out; have := HK2.out; first | omega | exact Nat.le_refl _⟩, ⟨by (with_reducible repeat (first | apply Kd.R_alloc | apply Kd.R_drewN | apply Kd.R_drew)); exact HO_9.out⟩, ⟨by (with_reducible repeat (first | apply Kd.R_alloc | apply Kd.R_drewN | apply Kd.R_drew)); exact HO_13.out⟩, ⟨by repeat (first | (with_reducible first | exact HB.out | apply below_alloc | apply pw_below_drewN | apply below_drew1) | exact HB.out)⟩⟩
                        · rw [if_neg c32] at H
                          exact absurd H (by simp)
                      · rw [if_neg c31] at H
                        exact absurd H (by simp)
                    case rest =>
                      clear HC30
                      try clear c1
                      try clear c2
                      try clear p2
                      try clear c3
                      try clear p3
                      try clear q3
                      try clear hx3
                      try clear c6
                      try clear c8
                      try clear c11
                      try clear c11b0
                      try clear c11b1
                      try clear c13
                      try clear c25
                      try clear c25b0
                      try clear c25b1
                      try clear c26
                      try clear c26b0
                      try clear c26b1
                      try clear c28
                      try clear c29
                      try clear c29b0
                      try clear c31
                      try clear c31b0
                      try clear p31
                      try clear q31
                      try clear hx31
                      try clear c32
                      try clear c32b0
                      try clear c33
                      try clear c33b0
                      try clear c33b1
                      try clear c34
                      try clear c34b0
                      try clear c34b1
                      try clear hx316_0
                      try clear hx317_0
                      try clear hx318_0
                      try clear p2
                      try clear p316
                      try clear p317
                      try clear p318
                      try clear q316
                      try clear q317
                      try clear q318
                      obtain ⟨kq, x98_29, rfl, HA, HJ29, HO_9, HO_13, HB⟩ := hcut
                      cases kq with
                      | zero => exact absurd HA.out (by simp [psalterylaw19_GainNear.j2])
                      | succ kj29 =>
                        have H := HA.out
                        clear HA
                        simp only [psalterylaw19_GainNear.j2] at H
                        by_cases c35 : x98_29 = true
                        · subst c35
                          have H1 : (psalterylaw19_GainNear.l0 kj29 l0 t302 t310 t314 (wrap64 (x17_2 + 1))) = some r := by rw [if_pos rfl] at H; exact H
                          clear H
                          have H := H1
                          clear H1
                          have H' := Aside0.mk H
                          clear H
                          go_wp2
                          repeat (go_quiet (fail); try go_wp2)
                          go_roundg kj29
                          case measure => have := HJ17.out; have := HK2.out; have := HJ29.out; omega
                          case rel => exact ⟨(wrap64 (x17_2 + 1)), (by first | rfl | (simp; done) | (simp [*]; done)), H', ⟨by have := HJ17.out; have := HK2.out; have := HJ29.out; omega⟩, ⟨by (with_reducible repeat (first | apply Kd.R_alloc | apply Kd.R_drewN | apply Kd.R_drew)); exact HO_9.out⟩, ⟨by (with_reducible repeat (first | apply Kd.R_alloc | apply Kd.R_drewN | apply Kd.R_drew)); exact HO_13.out⟩, ⟨by repeat (first | (with_reducible first | exact HB.out | apply below_alloc | apply pw_below_drewN | apply below_drew1) | exact HB.out)⟩⟩
                        · replace c35 := Bool.eq_false_iff.mpr c35
                          subst c35
                          have H1 : (if 0 ≤ x17_2 then (if x17_2 < (t310.length : Int) then (if x17_2 < (l0.length : Int) then (if (wrap64 ((wrap64 ((wrap64 (rd t310 x17_2)) - (wrap64 (rd l0 x17_2)))) * 65536)) > (wrap64 ((wrap64 (t314)) + 32768)) then (some false) else (if (wrap64 ((wrap64 ((wrap64 (rd t310 x17_2)) - (wrap64 (rd l0 x17_2)))) * 65536)) < (wrap64 (-(wrap64 ((wrap64 (t314)) + 32768)))) then (some false) else (psalterylaw19_GainNear.l0 kj29 l0 t302 t310 t314 (wrap64 (x17_2 + 1))))) else (none)) else (none)) else (none)) = some r := by rw [if_neg (show ¬ (false = true) by decide)] at H; exact H
                          clear H
                          have H := H1
                          clear H1
                          by_cases c36 : 0 ≤ x17_2
                          · rw [if_pos c36] at H
                            have c36b0 : decide (0 ≤ x17_2) = true := decide_eq_true c36
                            clear c36
                            by_cases c37 : x17_2 < (t310.length : Int)
                            · rw [if_pos c37] at H
                              have c37b0 : decide (x17_2 < (t310.length : Int)) = true := decide_eq_true c37
                              clear c37
                              by_cases c38 : x17_2 < (l0.length : Int)
                              · rw [if_pos c38] at H
                                have c38b0 : decide (x17_2 < (l0.length : Int)) = true := decide_eq_true c38
                                clear c38
                                by_cases c39 : (wrap64 ((wrap64 ((wrap64 (rd t310 x17_2)) - (wrap64 (rd l0 x17_2)))) * 65536)) > (wrap64 ((wrap64 (t314)) + 32768))
                                · rw [if_pos c39] at H
                                  have c39b0 : decide ((wrap64 ((wrap64 (t314)) + 32768)) < (wrap64 ((wrap64 ((wrap64 (rd t310 x17_2)) - (wrap64 (rd l0 x17_2)))) * 65536))) = true := decide_eq_true c39
                                  clear c39
                                  obtain rfl := Option.some.inj H
                                  obtain ⟨Ao40, co40, eo40⟩ := Kd.R_slice HO_13.out
                                  subst eo40
                                  have p319 : 0 ≤ (x17_2 : Int) := of_decide_eq_true (by first | (with_reducible assumption) | assumption)
                                  have q319 : x17_2 < (t310.length : Int) := of_decide_eq_true (by first | (with_reducible assumption) | assumption)
                                  obtain ⟨ad319, e319, hx319_0⟩ := Kd.at_int (Kd.R_reads' HO_13.out).2.2 x17_2 p319 q319
                                  cases e319
                                  replace p319 := eq_true p319
                                  replace q319 := eq_true q319
                                  have p320 : 0 ≤ (x17_2 : Int) := of_decide_eq_true (by first | (with_reducible assumption) | assumption)
                                  have q320 : x17_2 < (l0.length : Int) := of_decide_eq_true (by first | (with_reducible assumption) | assumption)
                                  obtain ⟨ad320, e320, hx320_0⟩ := Kd.at_int HR0.out x17_2 p320 q320
                                  cases e320
                                  replace hx320_0 := (HB.out.cell (World.block_lt_of_cell? w _ hx320_0)).trans hx320_0
                                  replace p320 := eq_true p320
                                  replace q320 := eq_true q320
                                  go_wp2
                                  repeat (go_quiet (fail); try go_wp2)
                                  go_ret
                                  exact ⟨by first | rfl | (simp [errW_none, errW_some] <;> rfl) | (simp only [← hji12, ← hji14, ← hji15]; first | rfl | (simp [errW_none, errW_some] <;> rfl)) | (simp [*, errW_none, errW_some] <;> rfl), by repeat (first | (with_reducible first | exact HB.out | apply below_alloc | apply pw_below_drewN | apply below_drew1) | exact HB.out)⟩
                                · rw [if_neg c39] at H
                                  have c39b0 : decide ((wrap64 ((wrap64 (t314)) + 32768)) < (wrap64 ((wrap64 ((wrap64 (rd t310 x17_2)) - (wrap64 (rd l0 x17_2)))) * 65536))) = false := decide_eq_false c39
                                  clear c39
                                  by_cases c41 : (wrap64 ((wrap64 ((wrap64 (rd t310 x17_2)) - (wrap64 (rd l0 x17_2)))) * 65536)) < (wrap64 (-(wrap64 ((wrap64 (t314)) + 32768))))
                                  · rw [if_pos c41] at H
                                    have c41b0 : decide ((wrap64 ((wrap64 ((wrap64 (rd t310 x17_2)) - (wrap64 (rd l0 x17_2)))) * 65536)) < (wrap64 (-(wrap64 ((wrap64 (t314)) + 32768))))) = true := decide_eq_true c41
                                    clear c41
                                    obtain rfl := Option.some.inj H
                                    obtain ⟨Ao42, co42, eo42⟩ := Kd.R_slice HO_13.out
                                    subst eo42
                                    have p319 : 0 ≤ (x17_2 : Int) := of_decide_eq_true (by first | (with_reducible assumption) | assumption)
                                    have q319 : x17_2 < (t310.length : Int) := of_decide_eq_true (by first | (with_reducible assumption) | assumption)
                                    obtain ⟨ad319, e319, hx319_0⟩ := Kd.at_int (Kd.R_reads' HO_13.out).2.2 x17_2 p319 q319
                                    cases e319
                                    replace p319 := eq_true p319
                                    replace q319 := eq_true q319
                                    have p320 : 0 ≤ (x17_2 : Int) := of_decide_eq_true (by first | (with_reducible assumption) | assumption)
                                    have q320 : x17_2 < (l0.length : Int) := of_decide_eq_true (by first | (with_reducible assumption) | assumption)
                                    obtain ⟨ad320, e320, hx320_0⟩ := Kd.at_int HR0.out x17_2 p320 q320
                                    cases e320
                                    replace hx320_0 := (HB.out.cell (World.block_lt_of_cell? w _ hx320_0)).trans hx320_0
                                    replace p320 := eq_true p320
                                    replace q320 := eq_true q320
                                    go_wp2
                                    repeat (go_quiet (fail); try go_wp2)
                                    go_ret
                                    exact ⟨by first | rfl | (simp [errW_none, errW_some] <;> rfl) | (simp only [← hji12, ← hji14, ← hji15]; first | rfl | (simp [errW_none, errW_some] <;> rfl)) | (simp [*, errW_none, errW_some] <;> rfl), by repeat (first | (with_reducible first | exact HB.out | apply below_alloc | apply pw_below_drewN | apply below_drew1) | exact HB.out)⟩
                                  · rw [if_neg c41] at H
                                    have c41b0 : decide ((wrap64 ((wrap64 ((wrap64 (rd t310 x17_2)) - (wrap64 (rd l0 x17_2)))) * 65536)) < (wrap64 (-(wrap64 ((wrap64 (t314)) + 32768))))) = false := decide_eq_false c41
                                    clear c41
                                    have H' := Aside0.mk H
                                    clear H
                                    obtain ⟨Ao43, co43, eo43⟩ := Kd.R_slice HO_13.out
                                    subst eo43
                                    have p319 : 0 ≤ (x17_2 : Int) := of_decide_eq_true (by first | (with_reducible assumption) | assumption)
                                    have q319 : x17_2 < (t310.length : Int) := of_decide_eq_true (by first | (with_reducible assumption) | assumption)
                                    obtain ⟨ad319, e319, hx319_0⟩ := Kd.at_int (Kd.R_reads' HO_13.out).2.2 x17_2 p319 q319
                                    cases e319
                                    replace p319 := eq_true p319
                                    replace q319 := eq_true q319
                                    have p320 : 0 ≤ (x17_2 : Int) := of_decide_eq_true (by first | (with_reducible assumption) | assumption)
                                    have q320 : x17_2 < (l0.length : Int) := of_decide_eq_true (by first | (with_reducible assumption) | assumption)
                                    obtain ⟨ad320, e320, hx320_0⟩ := Kd.at_int HR0.out x17_2 p320 q320
                                    cases e320
                                    replace hx320_0 := (HB.out.cell (World.block_lt_of_cell? w _ hx320_0)).trans hx320_0
                                    replace p320 := eq_true p320
                                    replace q320 := eq_true q320
                                    go_wp2
                                    repeat (go_quiet (fail); try go_wp2)
                                    go_roundg kj29
                                    case measure => have := HJ17.out; have := HK2.out; have := HJ29.out; omega
                                    case rel => exact ⟨(wrap64 (x17_2 + 1)), (by first | rfl | (simp; done) | (simp [*]; done)), H', ⟨by have := HJ17.out; have := HK2.out; have := HJ29.out; omega⟩, ⟨by (with_reducible repeat (first | apply Kd.R_alloc | apply Kd.R_drewN | apply Kd.R_drew)); exact HO_9.out⟩, ⟨by (with_reducible repeat (first | apply Kd.R_alloc | apply Kd.R_drewN | apply Kd.R_drew)); exact HO_13.out⟩, ⟨by repeat (first | (with_reducible first | exact HB.out | apply below_alloc | apply pw_below_drewN | apply below_drew1) | exact HB.out)⟩⟩
                              · rw [if_neg c38] at H
                                exact absurd H (by simp)
                            · rw [if_neg c37] at H
                              exact absurd H (by simp)
                          · rw [if_neg c36] at H
                            exact absurd H (by simp)
                  · rw [if_neg c29] at H
                    have c29b0 : decide (x17_2 < (l0.length : Int)) = false := decide_eq_false c29
                    clear c29
                    obtain rfl := Option.some.inj H
                    go_wp2
                    repeat (go_quiet (fail); try go_wp2)
                    go_ret
                    exact ⟨by first | rfl | (simp [errW_none, errW_some] <;> rfl) | (simp only [← hji12, ← hji14, ← hji15]; first | rfl | (simp [errW_none, errW_some] <;> rfl)) | (simp [*, errW_none, errW_some] <;> rfl), by repeat (first | (with_reducible first | exact HB.out | apply below_alloc | apply pw_below_drewN | apply below_drew1) | exact HB.out)⟩
      · rw [if_neg c11] at H
        have c11b0 : (t303 == 0) = false := beq_eq_false_iff_ne.mpr c11
        have c11b1 : (t303 != 0) = true := bne_iff_ne.mpr c11
        obtain rfl := Option.some.inj H
        go_enter Try.func13, Try.ntmps13
        go_wp2_with (first | (go_at_call 14; (with_reducible refine (psalterylaw19_alive.calls k  true _ A5.out).mono ?_); rintro e w44 ⟨rfl, hb⟩; have n0_ := Aside0.mk (below_step (by repeat (first | (with_reducible first | exact HB.out | apply below_alloc | apply pw_below_drewN | apply below_drew1) | exact HB.out)) hb); clear HB; have HB := n0_; clear n0_; (try clear hb); (try clear hb2); (try clear hk); (try clear hi)) | (go_at_call 15; (refine (psalterylaw19_far.calls _ _ l0 _ _ ([] : List Int) false _ ?side1 ?side2 ?side3 ?side4 A7.out).mono ?_); (case side1 => repeat (first | exact (Kd.C_below HR0.out HB.out) | (with_reducible refine Kd.C_alloc ?_ _) | (with_reducible refine Kd.C_drewN ?_ _) | (with_reducible refine Kd.C_drew ?_))); (case side2 => exact HC0.out); (case side3 => exact Kd.C_nil _ _); (case side4 => exact Nat.le_refl _); rintro e w' ⟨rfl, ⟨nd, rfl⟩⟩; (try first | exact ⟨rfl, _, World.drewN_drewN _ _ _⟩ | exact ⟨rfl, _, Eq.trans (World.drewN_drewN _ _ _) (congrArg (World.drewN _) (Nat.add_assoc _ _ _))⟩)) | (go_at_call 17; (with_reducible refine (gain_Quantise.calls k _ _ l0 a1 t302 t303 _ ?side1 ?side2 A10.out).mono ?_); (case side1 => repeat (first | exact (Kd.C_below HR0.out (by repeat (first | (with_reducible first | exact HB.out | apply below_alloc | apply pw_below_drewN | apply below_drew1) | exact HB.out))) | (with_reducible refine Kd.C_alloc ?_ _) | (with_reducible refine Kd.C_drewN ?_ _) | (with_reducible refine Kd.C_drew ?_))); (case side2 => exact HC0.out); rintro e w45 ⟨v304, rfl, ho0, hb⟩; have n0_ := Aside0.mk (Kd.R_lower ho0 (below_size (by repeat (first | (with_reducible first | exact HB.out | apply below_alloc | apply pw_below_drewN | apply below_drew1) | exact HB.out)))); have n1_ := Aside0.mk (below_step (by repeat (first | (with_reducible first | exact HB.out | apply below_alloc | apply pw_below_drewN | apply below_drew1) | exact HB.out)) hb); clear HB; have HO305 := n0_; have HB := n1_; clear n0_ n1_; (try clear hb); (try clear hb2); (try clear hk); (try clear hi); (try clear ho0); obtain ⟨Ao46, co46, eo46⟩ := Kd.R_slice HO305.out; subst eo46))
        repeat (go_quiet (first | (go_at_call 14; (with_reducible refine (psalterylaw19_alive.calls k  true _ A5.out).mono ?_); rintro e w44 ⟨rfl, hb⟩; have n0_ := Aside0.mk (below_step (by repeat (first | (with_reducible first | exact HB.out | apply below_alloc | apply pw_below_drewN | apply below_drew1) | exact HB.out)) hb); clear HB; have HB := n0_; clear n0_; (try clear hb); (try clear hb2); (try clear hk); (try clear hi)) | (go_at_call 15; (refine (psalterylaw19_far.calls _ _ l0 _ _ ([] : List Int) false _ ?side1 ?side2 ?side3 ?side4 A7.out).mono ?_); (case side1 => repeat (first | exact (Kd.C_below HR0.out HB.out) | (with_reducible refine Kd.C_alloc ?_ _) | (with_reducible refine Kd.C_drewN ?_ _) | (with_reducible refine Kd.C_drew ?_))); (case side2 => exact HC0.out); (case side3 => exact Kd.C_nil _ _); (case side4 => exact Nat.le_refl _); rintro e w' ⟨rfl, ⟨nd, rfl⟩⟩; (try first | exact ⟨rfl, _, World.drewN_drewN _ _ _⟩ | exact ⟨rfl, _, Eq.trans (World.drewN_drewN _ _ _) (congrArg (World.drewN _) (Nat.add_assoc _ _ _))⟩)) | (go_at_call 17; (with_reducible refine (gain_Quantise.calls k _ _ l0 a1 t302 t303 _ ?side1 ?side2 A10.out).mono ?_); (case side1 => repeat (first | exact (Kd.C_below HR0.out (by repeat (first | (with_reducible first | exact HB.out | apply below_alloc | apply pw_below_drewN | apply below_drew1) | exact HB.out))) | (with_reducible refine Kd.C_alloc ?_ _) | (with_reducible refine Kd.C_drewN ?_ _) | (with_reducible refine Kd.C_drew ?_))); (case side2 => exact HC0.out); rintro e w45 ⟨v304, rfl, ho0, hb⟩; have n0_ := Aside0.mk (Kd.R_lower ho0 (below_size (by repeat (first | (with_reducible first | exact HB.out | apply below_alloc | apply pw_below_drewN | apply below_drew1) | exact HB.out)))); have n1_ := Aside0.mk (below_step (by repeat (first | (with_reducible first | exact HB.out | apply below_alloc | apply pw_below_drewN | apply below_drew1) | exact HB.out)) hb); clear HB; have HO305 := n0_; have HB := n1_; clear n0_ n1_; (try clear hb); (try clear hb2); (try clear hk); (try clear hi); (try clear ho0); obtain ⟨Ao46, co46, eo46⟩ := Kd.R_slice HO305.out; subst eo46)); try go_wp2_with (first | (go_at_call 14; (with_reducible refine (psalterylaw19_alive.calls k  true _ A5.out).mono ?_); rintro e w44 ⟨rfl, hb⟩; have n0_ := Aside0.mk (below_step (by repeat (first | (with_reducible first | exact HB.out | apply below_alloc | apply pw_below_drewN | apply below_drew1) | exact HB.out)) hb); clear HB; have HB := n0_; clear n0_; (try clear hb); (try clear hb2); (try clear hk); (try clear hi)) | (go_at_call 15; (refine (psalterylaw19_far.calls _ _ l0 _ _ ([] : List Int) false _ ?side1 ?side2 ?side3 ?side4 A7.out).mono ?_); (case side1 => repeat (first | exact (Kd.C_below HR0.out HB.out) | (with_reducible refine Kd.C_alloc ?_ _) | (with_reducible refine Kd.C_drewN ?_ _) | (with_reducible refine Kd.C_drew ?_))); (case side2 => exact HC0.out); (case side3 => exact Kd.C_nil _ _); (case side4 => exact Nat.le_refl _); rintro e w' ⟨rfl, ⟨nd, rfl⟩⟩; (try first | exact ⟨rfl, _, World.drewN_drewN _ _ _⟩ | exact ⟨rfl, _, Eq.trans (World.drewN_drewN _ _ _) (congrArg (World.drewN _) (Nat.add_assoc _ _ _))⟩)) | (go_at_call 17; (with_reducible refine (gain_Quantise.calls k _ _ l0 a1 t302 t303 _ ?side1 ?side2 A10.out).mono ?_); (case side1 => repeat (first | exact (Kd.C_below HR0.out (by repeat (first | (with_reducible first | exact HB.out | apply below_alloc | apply pw_below_drewN | apply below_drew1) | exact HB.out))) | (with_reducible refine Kd.C_alloc ?_ _) | (with_reducible refine Kd.C_drewN ?_ _) | (with_reducible refine Kd.C_drew ?_))); (case side2 => exact HC0.out); rintro e w45 ⟨v304, rfl, ho0, hb⟩; have n0_ := Aside0.mk (Kd.R_lower ho0 (below_size (by repeat (first | (with_reducible first | exact HB.out | apply below_alloc | apply pw_below_drewN | apply below_drew1) | exact HB.out)))); have n1_ := Aside0.mk (below_step (by repeat (first | (with_reducible first | exact HB.out | apply below_alloc | apply pw_below_drewN | apply below_drew1) | exact HB.out)) hb); clear HB; have HO305 := n0_; have HB := n1_; clear n0_ n1_; (try clear hb); (try clear hb2); (try clear hk); (try clear hi); (try clear ho0); obtain ⟨Ao46, co46, eo46⟩ := Kd.R_slice HO305.out; subst eo46)))
        go_ret
        exact ⟨by first | rfl | (simp [errW_none, errW_some] <;> rfl) | (simp [*, errW_none, errW_some] <;> rfl), by repeat (first | (with_reducible first | exact HB.out | apply below_alloc | apply pw_below_drewN | apply below_drew1) | exact HB.out)⟩
  · replace c6 := Bool.eq_false_iff.mpr c6
    subst c6
    have H1 : (some false) = some r := by rw [if_neg (show ¬ (false = true) by decide)] at H; exact H
    clear H
    have H := H1
    clear H1
    obtain rfl := Option.some.inj H
    go_enter Try.func13, Try.ntmps13
    go_wp2_with (first | (go_at_call 14; (with_reducible refine (psalterylaw19_alive.calls k  false _ A5.out).mono ?_); rintro e w47 ⟨rfl, hb⟩; have n0_ := Aside0.mk (below_step (by repeat (first | (with_reducible first | exact HB.out | apply below_alloc | apply pw_below_drewN | apply below_drew1) | exact HB.out)) hb); clear HB; have HB := n0_; clear n0_; (try clear hb); (try clear hb2); (try clear hk); (try clear hi)))
    repeat (go_quiet (first | (go_at_call 14; (with_reducible refine (psalterylaw19_alive.calls k  false _ A5.out).mono ?_); rintro e w47 ⟨rfl, hb⟩; have n0_ := Aside0.mk (below_step (by repeat (first | (with_reducible first | exact HB.out | apply below_alloc | apply pw_below_drewN | apply below_drew1) | exact HB.out)) hb); clear HB; have HB := n0_; clear n0_; (try clear hb); (try clear hb2); (try clear hk); (try clear hi))); try go_wp2_with (first | (go_at_call 14; (with_reducible refine (psalterylaw19_alive.calls k  false _ A5.out).mono ?_); rintro e w47 ⟨rfl, hb⟩; have n0_ := Aside0.mk (below_step (by repeat (first | (with_reducible first | exact HB.out | apply below_alloc | apply pw_below_drewN | apply below_drew1) | exact HB.out)) hb); clear HB; have HB := n0_; clear n0_; (try clear hb); (try clear hb2); (try clear hk); (try clear hi))))
    go_ret
    exact ⟨by first | rfl | (simp [errW_none, errW_some] <;> rfl) | (simp [*, errW_none, errW_some] <;> rfl), by repeat (first | (with_reducible first | exact HB.out | apply below_alloc | apply pw_below_drewN | apply below_drew1) | exact HB.out)⟩

/-- THE ONE PURE STATEMENT of psalterylaw19_GainNear: yours. -/
def psalterylaw19_GainNear.Pure : Prop := ∀ (l0 : List Int) (a1 : Int) (a2 : Int) (a3 : Int), l0.length ≤ maxLen → l0.length * 4 ≤ 140737488351232 → (∀ x ∈ l0, (Lit.int .i32 x).wf = true) → (Lit.int .i64 a1).wf = true → (Lit.int .i64 a2).wf = true → (Lit.int .i64 a3).wf = true → ∃ k, psalterylaw19_GainNear.f k l0 a1 a2 a3 = some true
theorem psalterylaw19_GainNear.walk (P : psalterylaw19_GainNear.Pure) (a0 : Option Addr) (len0 cap0 : Nat) (z0 : List Int) (a1 : Int) (a2 : Int) (a3 : Int) (w : World) (w0 : (a0 = none ∧ len0 = 0 ∧ cap0 = 0 ∧ z0 = []) ∨ ∃ x, a0 = some x ∧ len0 ≤ cap0 ∧ cap0 ≤ maxLen ∧ z0.length = cap0 ∧ (∀ i, i < z0.length → w.cell? (x.add i) = some (.int .i32 (z0.getD i 0))) ∧ ∀ n ∈ z0, (Lit.int .i32 n).wf = true) (y0 : len0 * 4 ≤ 140737488351232) (w1 : (Lit.int .i64 a1).wf = true) (w2 : (Lit.int .i64 a2).wf = true) (w3 : (Lit.int .i64 a3).wf = true) :
    Calls Try.prog 13 #[.slice a0 len0 cap0, .int .i64 a1, .int .i64 a2, .int .i64 a3] w fun e w' => e = .returned (.bool true) ∧ Below w.heap.size w w' := by
  obtain ⟨l0, rfl, hr0, hm0, hw0, hc0⟩ := ReadsInt.ofRowC w0
  obtain ⟨k, h⟩ := P l0 a1 a2 a3 hm0 y0 hw0 w1 w2 w3
  refine (psalterylaw19_GainNear.calls k _ _ l0 a1 a2 a3 true w (Kd.C_of_reads (d := (0 : Int)) (h1 := fun _ => rfl) hr0) hc0 h).mono ?_
  rintro e w' ⟨rfl, hd⟩
  exact ⟨rfl, hd⟩

end Go.Proofs.Ytfipchhpnnjkeaa.PGain
