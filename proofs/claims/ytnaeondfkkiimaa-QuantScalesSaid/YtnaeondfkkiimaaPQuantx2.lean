/- Contracts of the functions that the law Quant reaches: each Go function as a Lean function, and that the Go text comes to it. Written by programs (wip/tools), out of the program's own loaded form. -/
import Derived.Test.YtnaeondfkkiimaaPQuantx0
import Derived.Test.YtnaeondfkkiimaaPQuantx1
namespace Go.Proofs.Ytnaeondfkkiimaa.PQuant
open Go.RowKit Go.Proofs.YtnaeondfkkiimaaW.PrintWords Go.Proofs.YtnaeondfkkiimaaW.PrintLast Go.Proofs.YtnaeondfkkiimaaW.PrintMore
attribute [local go_sem] max2_int min2_int max_two min_two max_three min_three max_four min_four   -- for this text's walks alone
set_option linter.unusedVariables false
set_option linter.unusedSimpArgs false

/-! ### psalteryref13_Quant: function 34 -/
def psalteryref13_Quant.j0 : Nat → Int → Int → Int → Option (Int × Int)
  | 0, _, _, _ => none
  | k + 1, x2, x8, x9 => if x9 ≤ (wrap64 (-x8)) then ((psalteryref13_power.f k x2).bind fun t115 => ((psalteryref13_down.f (wrap64 ((wrap64 (1 - x8)) * (wrap64 (t115 - 1)))) x8).bind fun t116 => ((psalteryref13_down.f (wrap64 (t116 + (wrap64 (t115 - 1)))) 2).bind fun t117 => (some (t117, 0))))) else ((psalteryref13_power.f k x2).bind fun t118 => ((psalteryref13_down.f (wrap64 (x9 * (wrap64 (t118 - 1)))) x8).bind fun t119 => ((psalteryref13_down.f (wrap64 (t119 + (wrap64 (t118 - 1)))) 2).bind fun t120 => (some (t120, 0)))))
def psalteryref13_Quant.f (k : Nat) (a0 : Int) (a1 : Int) (a2 : Int) : Option (Int × Int) := (psalteryref13_may.f a1 a2).bind fun t113 => (if t113 = true then (if a2 = 0 then (some (0, 0)) else ((psalteryref13_power.f k (wrap64 (a1 + 1))).bind fun t114 => (if (wrap64 (a0)) ≥ t114 then (psalteryref13_Quant.j0 k a2 t114 (wrap64 (t114 - 1))) else (psalteryref13_Quant.j0 k a2 t114 (wrap64 (a0)))))) else (some (0, 1)))
theorem psalteryref13_Quant.mono_l : ∀ k, (∀ y0 y1 y2, LeO (psalteryref13_Quant.j0 k y0 y1 y2) (psalteryref13_Quant.j0 (k + 1) y0 y1 y2))
  | 0 => fun _ _ _ r h => by simp [psalteryref13_Quant.j0] at h
  | k + 1 => by
    have ih0 := psalteryref13_Quant.mono_l k
    · intro y0 y1 y2
      unfold psalteryref13_Quant.j0
      repeat' first
      | (with_reducible exact ih0 _ _ _)
      | (with_reducible exact psalteryref13_power.mono _ _)
      | (with_reducible exact LeO.refl _)
      | (with_reducible exact LeO.none _)
      | (with_reducible refine LeO.ite ?_ ?_)
      | (with_reducible refine LeO.bind ?_ (fun _ => ?_))
      | exact ih0 _ _ _
      | exact psalteryref13_power.mono _ _
      | exact LeO.none _
      | refine LeO.ite ?_ ?_
      | refine LeO.bind ?_ (fun _ => ?_)
theorem psalteryref13_Quant.mono : ∀ a0 a1 a2 k, LeO (psalteryref13_Quant.f k a0 a1 a2) (psalteryref13_Quant.f (k + 1) a0 a1 a2) := by
  intro a0 a1 a2 k
  have ih0 := psalteryref13_Quant.mono_l k
  unfold psalteryref13_Quant.f
  repeat' first
      | (with_reducible exact ih0 _ _ _)
      | (with_reducible exact psalteryref13_power.mono _ _)
      | (with_reducible exact LeO.refl _)
      | (with_reducible exact LeO.none _)
      | (with_reducible refine LeO.ite ?_ ?_)
      | (with_reducible refine LeO.bind ?_ (fun _ => ?_))
      | exact ih0 _ _ _
      | exact psalteryref13_power.mono _ _
      | exact LeO.none _
      | refine LeO.ite ?_ ?_
      | refine LeO.bind ?_ (fun _ => ?_)
set_option maxHeartbeats 8000000 in
set_option maxRecDepth 100000 in
theorem psalteryref13_Quant.calls (k : Nat) (a0 : Int) (a1 : Int) (a2 : Int) (r1 : Int) (r2 : Int) (w : World) (h : psalteryref13_Quant.f k a0 a1 a2 = some (r1, r2)) :
    Calls Try.prog 34 #[.int .i32 a0, .int .i64 a1, .int .i64 a2] w fun e w' => e = .returned (.tuple #[.int .i64 r1, .int .i64 r2]) ∧ Drawn0 w w' := by
  have H : ((psalteryref13_may.f a1 a2).bind fun t113 => (if t113 = true then (if a2 = 0 then (some (0, 0)) else ((psalteryref13_power.f k (wrap64 (a1 + 1))).bind fun t114 => (if (wrap64 (a0)) ≥ t114 then (psalteryref13_Quant.j0 k a2 t114 (wrap64 (t114 - 1))) else (psalteryref13_Quant.j0 k a2 t114 (wrap64 (a0)))))) else (some (0, 1)))) = some (r1, r2) := h
  clear h
  replace H := Option.bind_eq_some_iff.mp H
  obtain ⟨t113, A40, H⟩ := H
  replace H : (if t113 = true then (if a2 = 0 then (some (0, 0)) else ((psalteryref13_power.f k (wrap64 (a1 + 1))).bind fun t114 => (if (wrap64 (a0)) ≥ t114 then (psalteryref13_Quant.j0 k a2 t114 (wrap64 (t114 - 1))) else (psalteryref13_Quant.j0 k a2 t114 (wrap64 (a0)))))) else (some (0, 1))) = some (r1, r2) := H
  have A4 := Aside0.mk A40
  clear A40
  by_cases c5 : t113 = true
  · subst c5
    have H1 : (if a2 = 0 then (some (0, 0)) else ((psalteryref13_power.f k (wrap64 (a1 + 1))).bind fun t114 => (if (wrap64 (a0)) ≥ t114 then (psalteryref13_Quant.j0 k a2 t114 (wrap64 (t114 - 1))) else (psalteryref13_Quant.j0 k a2 t114 (wrap64 (a0)))))) = some (r1, r2) := by rw [if_pos rfl] at H; exact H
    clear H
    have H := H1
    clear H1
    by_cases c6 : a2 = 0
    · rw [if_pos c6] at H
      have c6b0 : (a2 == 0) = true := beq_iff_eq.mpr c6
      have c6b1 : (a2 != 0) = false := bne_eq_false_iff_eq.mpr c6
      clear c6
      simp only [Option.some.injEq, Prod.mk.injEq] at H
      obtain ⟨rfl, rfl⟩ := H
      go_enter Try.func34, Try.ntmps34
      go_wp2_with (first | ((with_reducible refine gate_callee (f := 66) rfl ?_); refine goesL_ (some 13) rfl rfl Try.func66 (by kernel_rfl) rfl #[.int .i64 a1, .int .i64 a2] rfl (by (try simp only [List.map_toArray, List.map_cons, List.map_nil]); first | done | rfl | (simp only [List.length_drop, List.length_take]; rfl)) ?_; (with_reducible refine (psalteryref13_may.calls a1 a2 true _ A4.out).mono ?_); rintro e w' ⟨rfl, ⟨nd, rfl⟩⟩; refine ⟨_, rfl, ?_⟩))
      go_ret2
      exact ⟨by first | rfl | (simp; done) | (simp [*]; done), by repeat (first | exact Drawn0.refl _ | apply Drawn0.step)⟩
    · rw [if_neg c6] at H
      have c6b0 : (a2 == 0) = false := beq_eq_false_iff_ne.mpr c6
      have c6b1 : (a2 != 0) = true := bne_iff_ne.mpr c6
      replace H := Option.bind_eq_some_iff.mp H
      obtain ⟨t114, A70, H⟩ := H
      replace H : (if (wrap64 (a0)) ≥ t114 then (psalteryref13_Quant.j0 k a2 t114 (wrap64 (t114 - 1))) else (psalteryref13_Quant.j0 k a2 t114 (wrap64 (a0)))) = some (r1, r2) := H
      have A7 := Aside0.mk A70
      clear A70
      have HC8 := Aside0.mk H
      clear H
      go_enter Try.func34, Try.ntmps34
      go_upto_if 24 with (first | ((with_reducible refine gate_callee (f := 66) rfl ?_); refine goesL_ (some 13) rfl rfl Try.func66 (by kernel_rfl) rfl #[.int .i64 a1, .int .i64 a2] rfl (by (try simp only [List.map_toArray, List.map_cons, List.map_nil]); first | done | rfl | (simp only [List.length_drop, List.length_take]; rfl)) ?_; (with_reducible refine (psalteryref13_may.calls a1 a2 true _ A4.out).mono ?_); rintro e w' ⟨rfl, ⟨nd, rfl⟩⟩; refine ⟨_, rfl, ?_⟩) | ((with_reducible refine gate_callee (f := 67) rfl ?_); refine goesL_ (some 19) rfl rfl Try.func67 (by kernel_rfl) rfl #[.int .i64 (wrap64 (a1 + 1))] rfl (by (try simp only [List.map_toArray, List.map_cons, List.map_nil]); first | done | rfl | (simp only [List.length_drop, List.length_take]; rfl)) ?_; (with_reducible refine (psalteryref13_power.calls k (wrap64 (a1 + 1)) t114 _ A7.out).mono ?_); rintro e w' ⟨rfl, ⟨nd, rfl⟩⟩; refine ⟨_, rfl, ?_⟩))
      (try simp only [Act.put, List.setIfInBounds_toArray, List.set_cons_zero, List.set_cons_succ])
      go_cut [9] (fun v9 wc => ∃ (kq : Nat) (x9_7 : Int), v9 = .int .i64 x9_7 ∧ Aside0 (psalteryref13_Quant.j0 kq a2 t114 x9_7 = some (r1, r2)) ∧ Aside0 (kq ≤ k) ∧ Drawn0 w wc)
      case first =>
        have H := HC8.out
        clear HC8
        by_cases c9 : (wrap64 (a0)) ≥ t114
        · rw [if_pos c9] at H
          have c9b0 : decide (t114 ≤ (wrap64 (a0))) = true := decide_eq_true c9
          clear c9
          (first | rw [c9b0] | (simp only [i64_w, i32_w]; rw [c9b0]) | skip)
          have H' := Aside0.mk H
          clear H
          go_wp2
          go_meet
          case rel => exact ⟨_, (wrap64 (t114 - 1)), (by first | rfl | (simp; done) | (simp [*]; done)), H', ⟨by first | omega | exact Nat.le_refl _⟩, by repeat (first | exact Drawn0.refl _ | apply Drawn0.step)⟩
        · rw [if_neg c9] at H
          have c9b0 : decide (t114 ≤ (wrap64 (a0))) = false := decide_eq_false c9
          clear c9
          (first | rw [c9b0] | (simp only [i64_w, i32_w]; rw [c9b0]) | skip)
          have H' := Aside0.mk H
          clear H
          go_wp2
          go_meet
          case rel => exact ⟨_, (wrap64 (a0)), (by first | rfl | (simp; done) | (simp [*]; done)), H', ⟨by first | omega | exact Nat.le_refl _⟩, by repeat (first | exact Drawn0.refl _ | apply Drawn0.step)⟩
      case rest =>
        clear HC8
        try clear p2
        try clear c3
        try clear c5
        try clear c6
        try clear c6b0
        try clear c6b1
        try clear p6
        try clear c9
        try clear c9b0
        obtain ⟨kq, x9_7, rfl, HA, HJ7, ⟨mc7, rfl⟩⟩ := hcut
        cases kq with
        | zero => exact absurd HA.out (by simp [psalteryref13_Quant.j0])
        | succ kj7 =>
          have H := HA.out
          clear HA
          simp only [psalteryref13_Quant.j0] at H
          by_cases c10 : x9_7 ≤ (wrap64 (-t114))
          · rw [if_pos c10] at H
            have c10b0 : decide (x9_7 ≤ (wrap64 (-t114))) = true := decide_eq_true c10
            clear c10
            replace H := Option.bind_eq_some_iff.mp H
            obtain ⟨t115, A110, H⟩ := H
            replace H : ((psalteryref13_down.f (wrap64 ((wrap64 (1 - t114)) * (wrap64 (t115 - 1)))) t114).bind fun t116 => ((psalteryref13_down.f (wrap64 (t116 + (wrap64 (t115 - 1)))) 2).bind fun t117 => (some (t117, 0)))) = some (r1, r2) := H
            have A11 := Aside0.mk A110
            clear A110
            replace H := Option.bind_eq_some_iff.mp H
            obtain ⟨t116, A120, H⟩ := H
            replace H : ((psalteryref13_down.f (wrap64 (t116 + (wrap64 (t115 - 1)))) 2).bind fun t117 => (some (t117, 0))) = some (r1, r2) := H
            have A12 := Aside0.mk A120
            clear A120
            replace H := Option.bind_eq_some_iff.mp H
            obtain ⟨t117, A130, H⟩ := H
            replace H : (some (t117, 0)) = some (r1, r2) := H
            have A13 := Aside0.mk A130
            clear A130
            simp only [Option.some.injEq, Prod.mk.injEq] at H
            obtain ⟨rfl, rfl⟩ := H
            go_wp2_with (first | ((with_reducible refine gate_callee (f := 67) rfl ?_); refine goesL_ (some 34) rfl rfl Try.func67 (by kernel_rfl) rfl #[.int .i64 a2] rfl (by (try simp only [List.map_toArray, List.map_cons, List.map_nil]); first | done | rfl | (simp only [List.length_drop, List.length_take]; rfl)) ?_; (with_reducible refine (psalteryref13_power.calls kj7 a2 t115 _ A11.out).mono ?_); rintro e w' ⟨rfl, ⟨nd, rfl⟩⟩; refine ⟨_, rfl, ?_⟩) | ((with_reducible refine gate_callee (f := 68) rfl ?_); refine goesL_ (some 40) rfl rfl Try.func68 (by kernel_rfl) rfl #[.int .i64 (wrap64 ((wrap64 (1 - t114)) * (wrap64 (t115 - 1)))), .int .i64 t114] rfl (by (try simp only [List.map_toArray, List.map_cons, List.map_nil]); first | done | rfl | (simp only [List.length_drop, List.length_take]; rfl)) ?_; (with_reducible refine (psalteryref13_down.calls (wrap64 ((wrap64 (1 - t114)) * (wrap64 (t115 - 1)))) t114 t116 _ A12.out).mono ?_); rintro e w' ⟨rfl, ⟨nd, rfl⟩⟩; refine ⟨_, rfl, ?_⟩) | ((with_reducible refine gate_callee (f := 68) rfl ?_); refine goesL_ (some 43) rfl rfl Try.func68 (by kernel_rfl) rfl #[.int .i64 (wrap64 (t116 + (wrap64 (t115 - 1)))), .int .i64 2] rfl (by (try simp only [List.map_toArray, List.map_cons, List.map_nil]); first | done | rfl | (simp only [List.length_drop, List.length_take]; rfl)) ?_; (with_reducible refine (psalteryref13_down.calls (wrap64 (t116 + (wrap64 (t115 - 1)))) 2 t117 _ A13.out).mono ?_); rintro e w' ⟨rfl, ⟨nd, rfl⟩⟩; refine ⟨_, rfl, ?_⟩))
            go_ret2
            exact ⟨by first | rfl | (simp; done) | (simp [*]; done), by repeat (first | exact Drawn0.refl _ | apply Drawn0.step)⟩
          · rw [if_neg c10] at H
            have c10b0 : decide (x9_7 ≤ (wrap64 (-t114))) = false := decide_eq_false c10
            clear c10
            replace H := Option.bind_eq_some_iff.mp H
            obtain ⟨t118, A140, H⟩ := H
            replace H : ((psalteryref13_down.f (wrap64 (x9_7 * (wrap64 (t118 - 1)))) t114).bind fun t119 => ((psalteryref13_down.f (wrap64 (t119 + (wrap64 (t118 - 1)))) 2).bind fun t120 => (some (t120, 0)))) = some (r1, r2) := H
            have A14 := Aside0.mk A140
            clear A140
            replace H := Option.bind_eq_some_iff.mp H
            obtain ⟨t119, A150, H⟩ := H
            replace H : ((psalteryref13_down.f (wrap64 (t119 + (wrap64 (t118 - 1)))) 2).bind fun t120 => (some (t120, 0))) = some (r1, r2) := H
            have A15 := Aside0.mk A150
            clear A150
            replace H := Option.bind_eq_some_iff.mp H
            obtain ⟨t120, A160, H⟩ := H
            replace H : (some (t120, 0)) = some (r1, r2) := H
            have A16 := Aside0.mk A160
            clear A160
            simp only [Option.some.injEq, Prod.mk.injEq] at H
            obtain ⟨rfl, rfl⟩ := H
            go_wp2_with (first | ((with_reducible refine gate_callee (f := 67) rfl ?_); refine goesL_ (some 34) rfl rfl Try.func67 (by kernel_rfl) rfl #[.int .i64 a2] rfl (by (try simp only [List.map_toArray, List.map_cons, List.map_nil]); first | done | rfl | (simp only [List.length_drop, List.length_take]; rfl)) ?_; (with_reducible refine (psalteryref13_power.calls kj7 a2 t118 _ A14.out).mono ?_); rintro e w' ⟨rfl, ⟨nd, rfl⟩⟩; refine ⟨_, rfl, ?_⟩) | ((with_reducible refine gate_callee (f := 68) rfl ?_); refine goesL_ (some 40) rfl rfl Try.func68 (by kernel_rfl) rfl #[.int .i64 (wrap64 (x9_7 * (wrap64 (t118 - 1)))), .int .i64 t114] rfl (by (try simp only [List.map_toArray, List.map_cons, List.map_nil]); first | done | rfl | (simp only [List.length_drop, List.length_take]; rfl)) ?_; (with_reducible refine (psalteryref13_down.calls (wrap64 (x9_7 * (wrap64 (t118 - 1)))) t114 t119 _ A15.out).mono ?_); rintro e w' ⟨rfl, ⟨nd, rfl⟩⟩; refine ⟨_, rfl, ?_⟩) | ((with_reducible refine gate_callee (f := 68) rfl ?_); refine goesL_ (some 43) rfl rfl Try.func68 (by kernel_rfl) rfl #[.int .i64 (wrap64 (t119 + (wrap64 (t118 - 1)))), .int .i64 2] rfl (by (try simp only [List.map_toArray, List.map_cons, List.map_nil]); first | done | rfl | (simp only [List.length_drop, List.length_take]; rfl)) ?_; (with_reducible refine (psalteryref13_down.calls (wrap64 (t119 + (wrap64 (t118 - 1)))) 2 t120 _ A16.out).mono ?_); rintro e w' ⟨rfl, ⟨nd, rfl⟩⟩; refine ⟨_, rfl, ?_⟩))
            go_ret2
            exact ⟨by first | rfl | (simp; done) | (simp [*]; done), by repeat (first | exact Drawn0.refl _ | apply Drawn0.step)⟩
  · replace c5 := Bool.eq_false_iff.mpr c5
    subst c5
    have H1 : (some (0, 1)) = some (r1, r2) := by rw [if_neg (show ¬ (false = true) by decide)] at H; exact H
    clear H
    have H := H1
    clear H1
    simp only [Option.some.injEq, Prod.mk.injEq] at H
    obtain ⟨rfl, rfl⟩ := H
    go_enter Try.func34, Try.ntmps34
    go_wp2_with (first | ((with_reducible refine gate_callee (f := 66) rfl ?_); refine goesL_ (some 13) rfl rfl Try.func66 (by kernel_rfl) rfl #[.int .i64 a1, .int .i64 a2] rfl (by (try simp only [List.map_toArray, List.map_cons, List.map_nil]); first | done | rfl | (simp only [List.length_drop, List.length_take]; rfl)) ?_; (with_reducible refine (psalteryref13_may.calls a1 a2 false _ A4.out).mono ?_); rintro e w' ⟨rfl, ⟨nd, rfl⟩⟩; refine ⟨_, rfl, ?_⟩))
    go_ret2
    exact ⟨by first | rfl | (simp; done) | (simp [*]; done), by repeat (first | exact Drawn0.refl _ | apply Drawn0.step)⟩

/-! ### psalteryref13_Level: function 36 -/
def psalteryref13_Level.j0 : Nat → Int → Int → Int → Bool → Option (Int × Int)
  | 0, _, _, _, _ => none
  | k + 1, x0, x1, x2, x17 => if x17 = true then (some (0, 1)) else (if x2 = 0 then (if x0 = 0 then (some (0, 0)) else (some (0, 1))) else ((psalteryref13_power.f k x2).bind fun t122 => (if x0 ≥ (wrap64 (t122 - 1)) then (some (0, 1)) else ((psalteryref13_power.f k (wrap64 (x1 + 1))).bind fun t123 => ((psalteryref13_down.f (wrap64 ((wrap64 ((wrap64 (2 * x0)) + 1)) * t123)) (wrap64 (t122 - 1))).bind fun t124 => (some (wrap32 (wrap64 (t124 - t123)), 0)))))))
def psalteryref13_Level.f (k : Nat) (a0 : Int) (a1 : Int) (a2 : Int) : Option (Int × Int) := (psalteryref13_may.f a1 a2).bind fun t121 => (if t121 = true then (psalteryref13_Level.j0 k a0 a1 a2 (decide (a0 < 0))) else (psalteryref13_Level.j0 k a0 a1 a2 true))
theorem psalteryref13_Level.mono_l : ∀ k, (∀ y0 y1 y2 y3, LeO (psalteryref13_Level.j0 k y0 y1 y2 y3) (psalteryref13_Level.j0 (k + 1) y0 y1 y2 y3))
  | 0 => fun _ _ _ _ r h => by simp [psalteryref13_Level.j0] at h
  | k + 1 => by
    have ih0 := psalteryref13_Level.mono_l k
    · intro y0 y1 y2 y3
      unfold psalteryref13_Level.j0
      repeat' first
      | (with_reducible exact ih0 _ _ _ _)
      | (with_reducible exact psalteryref13_power.mono _ _)
      | (with_reducible exact LeO.refl _)
      | (with_reducible exact LeO.none _)
      | (with_reducible refine LeO.ite ?_ ?_)
      | (with_reducible refine LeO.bind ?_ (fun _ => ?_))
      | exact ih0 _ _ _ _
      | exact psalteryref13_power.mono _ _
      | exact LeO.none _
      | refine LeO.ite ?_ ?_
      | refine LeO.bind ?_ (fun _ => ?_)
theorem psalteryref13_Level.mono : ∀ a0 a1 a2 k, LeO (psalteryref13_Level.f k a0 a1 a2) (psalteryref13_Level.f (k + 1) a0 a1 a2) := by
  intro a0 a1 a2 k
  have ih0 := psalteryref13_Level.mono_l k
  unfold psalteryref13_Level.f
  repeat' first
      | (with_reducible exact ih0 _ _ _ _)
      | (with_reducible exact psalteryref13_power.mono _ _)
      | (with_reducible exact LeO.refl _)
      | (with_reducible exact LeO.none _)
      | (with_reducible refine LeO.ite ?_ ?_)
      | (with_reducible refine LeO.bind ?_ (fun _ => ?_))
      | exact ih0 _ _ _ _
      | exact psalteryref13_power.mono _ _
      | exact LeO.none _
      | refine LeO.ite ?_ ?_
      | refine LeO.bind ?_ (fun _ => ?_)
set_option maxHeartbeats 8000000 in
set_option maxRecDepth 100000 in
theorem psalteryref13_Level.calls (k : Nat) (a0 : Int) (a1 : Int) (a2 : Int) (r1 : Int) (r2 : Int) (w : World) (h : psalteryref13_Level.f k a0 a1 a2 = some (r1, r2)) :
    Calls Try.prog 36 #[.int .i64 a0, .int .i64 a1, .int .i64 a2] w fun e w' => e = .returned (.tuple #[.int .i32 r1, .int .i64 r2]) ∧ Drawn0 w w' := by
  have H : ((psalteryref13_may.f a1 a2).bind fun t121 => (if t121 = true then (psalteryref13_Level.j0 k a0 a1 a2 (decide (a0 < 0))) else (psalteryref13_Level.j0 k a0 a1 a2 true))) = some (r1, r2) := h
  clear h
  have HC4 := Aside0.mk H
  clear H
  go_enter Try.func36, Try.ntmps36
  go_upto_region 1 with (fail)
  go_cut [17] (fun v17 wc => ∃ (kq : Nat) (x17_3 : Bool), v17 = .bool x17_3 ∧ Aside0 (psalteryref13_Level.j0 kq a0 a1 a2 x17_3 = some (r1, r2)) ∧ Aside0 (kq ≤ k) ∧ Drawn0 w wc)
  case first =>
    have H := HC4.out
    clear HC4
    replace H := Option.bind_eq_some_iff.mp H
    obtain ⟨t121, A50, H⟩ := H
    replace H : (if t121 = true then (psalteryref13_Level.j0 k a0 a1 a2 (decide (a0 < 0))) else (psalteryref13_Level.j0 k a0 a1 a2 true)) = some (r1, r2) := H
    have A5 := Aside0.mk A50
    clear A50
    by_cases c6 : t121 = true
    · subst c6
      have H1 : (psalteryref13_Level.j0 k a0 a1 a2 (decide (a0 < 0))) = some (r1, r2) := by rw [if_pos rfl] at H; exact H
      clear H
      have H := H1
      clear H1
      have H' := Aside0.mk H
      clear H
      go_wp2_with (first | ((with_reducible refine gate_callee (f := 66) rfl ?_); refine goesL_ (some 12) rfl rfl Try.func66 (by kernel_rfl) rfl #[.int .i64 a1, .int .i64 a2] rfl (by (try simp only [List.map_toArray, List.map_cons, List.map_nil]); first | done | rfl | (simp only [List.length_drop, List.length_take]; rfl)) ?_; (with_reducible refine (psalteryref13_may.calls a1 a2 true _ A5.out).mono ?_); rintro e w' ⟨rfl, ⟨nd, rfl⟩⟩; refine ⟨_, rfl, ?_⟩))
      go_meet
      case rel => exact ⟨_, (decide (a0 < 0)), (by first | rfl | (simp; done) | (simp [*]; done)), H', ⟨by first | omega | exact Nat.le_refl _⟩, by repeat (first | exact Drawn0.refl _ | apply Drawn0.step)⟩
    · replace c6 := Bool.eq_false_iff.mpr c6
      subst c6
      have H1 : (psalteryref13_Level.j0 k a0 a1 a2 true) = some (r1, r2) := by rw [if_neg (show ¬ (false = true) by decide)] at H; exact H
      clear H
      have H := H1
      clear H1
      have H' := Aside0.mk H
      clear H
      go_wp2_with (first | ((with_reducible refine gate_callee (f := 66) rfl ?_); refine goesL_ (some 12) rfl rfl Try.func66 (by kernel_rfl) rfl #[.int .i64 a1, .int .i64 a2] rfl (by (try simp only [List.map_toArray, List.map_cons, List.map_nil]); first | done | rfl | (simp only [List.length_drop, List.length_take]; rfl)) ?_; (with_reducible refine (psalteryref13_may.calls a1 a2 false _ A5.out).mono ?_); rintro e w' ⟨rfl, ⟨nd, rfl⟩⟩; refine ⟨_, rfl, ?_⟩))
      go_meet
      case rel => exact ⟨_, (true), (by first | rfl | (simp; done) | (simp [*]; done)), H', ⟨by first | omega | exact Nat.le_refl _⟩, by repeat (first | exact Drawn0.refl _ | apply Drawn0.step)⟩
  case rest =>
    clear HC4
    try clear p2
    try clear c3
    try clear c6
    obtain ⟨kq, x17_3, rfl, HA, HJ3, ⟨mc3, rfl⟩⟩ := hcut
    cases kq with
    | zero => exact absurd HA.out (by simp [psalteryref13_Level.j0])
    | succ kj3 =>
      have H := HA.out
      clear HA
      simp only [psalteryref13_Level.j0] at H
      by_cases c7 : x17_3 = true
      · subst c7
        have H1 : (some (0, 1)) = some (r1, r2) := by rw [if_pos rfl] at H; exact H
        clear H
        have H := H1
        clear H1
        simp only [Option.some.injEq, Prod.mk.injEq] at H
        obtain ⟨rfl, rfl⟩ := H
        go_wp2
        go_ret2
        exact ⟨by first | rfl | (simp; done) | (simp [*]; done), by repeat (first | exact Drawn0.refl _ | apply Drawn0.step)⟩
      · replace c7 := Bool.eq_false_iff.mpr c7
        subst c7
        have H1 : (if a2 = 0 then (if a0 = 0 then (some (0, 0)) else (some (0, 1))) else ((psalteryref13_power.f kj3 a2).bind fun t122 => (if a0 ≥ (wrap64 (t122 - 1)) then (some (0, 1)) else ((psalteryref13_power.f kj3 (wrap64 (a1 + 1))).bind fun t123 => ((psalteryref13_down.f (wrap64 ((wrap64 ((wrap64 (2 * a0)) + 1)) * t123)) (wrap64 (t122 - 1))).bind fun t124 => (some (wrap32 (wrap64 (t124 - t123)), 0))))))) = some (r1, r2) := by rw [if_neg (show ¬ (false = true) by decide)] at H; exact H
        clear H
        have H := H1
        clear H1
        by_cases c8 : a2 = 0
        · rw [if_pos c8] at H
          have c8b0 : (a2 == 0) = true := beq_iff_eq.mpr c8
          have c8b1 : (a2 != 0) = false := bne_eq_false_iff_eq.mpr c8
          clear c8
          by_cases c9 : a0 = 0
          · rw [if_pos c9] at H
            have c9b0 : (a0 == 0) = true := beq_iff_eq.mpr c9
            have c9b1 : (a0 != 0) = false := bne_eq_false_iff_eq.mpr c9
            clear c9
            simp only [Option.some.injEq, Prod.mk.injEq] at H
            obtain ⟨rfl, rfl⟩ := H
            go_wp2
            go_ret2
            exact ⟨by first | rfl | (simp; done) | (simp [*]; done), by repeat (first | exact Drawn0.refl _ | apply Drawn0.step)⟩
          · rw [if_neg c9] at H
            have c9b0 : (a0 == 0) = false := beq_eq_false_iff_ne.mpr c9
            have c9b1 : (a0 != 0) = true := bne_iff_ne.mpr c9
            simp only [Option.some.injEq, Prod.mk.injEq] at H
            obtain ⟨rfl, rfl⟩ := H
            go_wp2
            go_ret2
            exact ⟨by first | rfl | (simp; done) | (simp [*]; done), by repeat (first | exact Drawn0.refl _ | apply Drawn0.step)⟩
        · rw [if_neg c8] at H
          have c8b0 : (a2 == 0) = false := beq_eq_false_iff_ne.mpr c8
          have c8b1 : (a2 != 0) = true := bne_iff_ne.mpr c8
          replace H := Option.bind_eq_some_iff.mp H
          obtain ⟨t122, A100, H⟩ := H
          replace H : (if a0 ≥ (wrap64 (t122 - 1)) then (some (0, 1)) else ((psalteryref13_power.f kj3 (wrap64 (a1 + 1))).bind fun t123 => ((psalteryref13_down.f (wrap64 ((wrap64 ((wrap64 (2 * a0)) + 1)) * t123)) (wrap64 (t122 - 1))).bind fun t124 => (some (wrap32 (wrap64 (t124 - t123)), 0))))) = some (r1, r2) := H
          have A10 := Aside0.mk A100
          clear A100
          by_cases c11 : a0 ≥ (wrap64 (t122 - 1))
          · rw [if_pos c11] at H
            have c11b0 : decide ((wrap64 (t122 - 1)) ≤ a0) = true := decide_eq_true c11
            clear c11
            simp only [Option.some.injEq, Prod.mk.injEq] at H
            obtain ⟨rfl, rfl⟩ := H
            go_wp2_with (first | ((with_reducible refine gate_callee (f := 67) rfl ?_); refine goesL_ (some 23) rfl rfl Try.func67 (by kernel_rfl) rfl #[.int .i64 a2] rfl (by (try simp only [List.map_toArray, List.map_cons, List.map_nil]); first | done | rfl | (simp only [List.length_drop, List.length_take]; rfl)) ?_; (with_reducible refine (psalteryref13_power.calls kj3 a2 t122 _ A10.out).mono ?_); rintro e w' ⟨rfl, ⟨nd, rfl⟩⟩; refine ⟨_, rfl, ?_⟩))
            go_ret2
            exact ⟨by first | rfl | (simp; done) | (simp [*]; done), by repeat (first | exact Drawn0.refl _ | apply Drawn0.step)⟩
          · rw [if_neg c11] at H
            have c11b0 : decide ((wrap64 (t122 - 1)) ≤ a0) = false := decide_eq_false c11
            clear c11
            replace H := Option.bind_eq_some_iff.mp H
            obtain ⟨t123, A120, H⟩ := H
            replace H : ((psalteryref13_down.f (wrap64 ((wrap64 ((wrap64 (2 * a0)) + 1)) * t123)) (wrap64 (t122 - 1))).bind fun t124 => (some (wrap32 (wrap64 (t124 - t123)), 0))) = some (r1, r2) := H
            have A12 := Aside0.mk A120
            clear A120
            replace H := Option.bind_eq_some_iff.mp H
            obtain ⟨t124, A130, H⟩ := H
            replace H : (some (wrap32 (wrap64 (t124 - t123)), 0)) = some (r1, r2) := H
            have A13 := Aside0.mk A130
            clear A130
            simp only [Option.some.injEq, Prod.mk.injEq] at H
            obtain ⟨rfl, rfl⟩ := H
            go_wp2_with (first | ((with_reducible refine gate_callee (f := 67) rfl ?_); refine goesL_ (some 23) rfl rfl Try.func67 (by kernel_rfl) rfl #[.int .i64 a2] rfl (by (try simp only [List.map_toArray, List.map_cons, List.map_nil]); first | done | rfl | (simp only [List.length_drop, List.length_take]; rfl)) ?_; (with_reducible refine (psalteryref13_power.calls kj3 a2 t122 _ A10.out).mono ?_); rintro e w' ⟨rfl, ⟨nd, rfl⟩⟩; refine ⟨_, rfl, ?_⟩) | ((with_reducible refine gate_callee (f := 67) rfl ?_); refine goesL_ (some 30) rfl rfl Try.func67 (by kernel_rfl) rfl #[.int .i64 (wrap64 (a1 + 1))] rfl (by (try simp only [List.map_toArray, List.map_cons, List.map_nil]); first | done | rfl | (simp only [List.length_drop, List.length_take]; rfl)) ?_; (with_reducible refine (psalteryref13_power.calls kj3 (wrap64 (a1 + 1)) t123 _ A12.out).mono ?_); rintro e w' ⟨rfl, ⟨nd, rfl⟩⟩; refine ⟨_, rfl, ?_⟩) | ((with_reducible refine gate_callee (f := 68) rfl ?_); refine goesL_ (some 37) rfl rfl Try.func68 (by kernel_rfl) rfl #[.int .i64 (wrap64 ((wrap64 ((wrap64 (2 * a0)) + 1)) * t123)), .int .i64 (wrap64 (t122 - 1))] rfl (by (try simp only [List.map_toArray, List.map_cons, List.map_nil]); first | done | rfl | (simp only [List.length_drop, List.length_take]; rfl)) ?_; (with_reducible refine (psalteryref13_down.calls (wrap64 ((wrap64 ((wrap64 (2 * a0)) + 1)) * t123)) (wrap64 (t122 - 1)) t124 _ A13.out).mono ?_); rintro e w' ⟨rfl, ⟨nd, rfl⟩⟩; refine ⟨_, rfl, ?_⟩))
            go_ret2
            exact ⟨by first | rfl | (simp; done) | (simp [*]; done), by repeat (first | exact Drawn0.refl _ | apply Drawn0.step)⟩

/-! ### psalteryref13_Scale: function 38 -/
def psalteryref13_Scale.l0 : Nat → Int → Int → Option (Int)
  | 0, _, _ => none
  | k + 1, x0, x3 => if x3 < 15 then ((psalteryref13_power.f k (wrap64 (x3 + 1))).bind fun t125 => (if t125 > x0 then (some x3) else (psalteryref13_Scale.l0 k x0 (wrap64 (x3 + 1))))) else (some 15)
def psalteryref13_Scale.f (k : Nat) (a0 : Int) : Option (Int) := psalteryref13_Scale.l0 k a0 0
theorem psalteryref13_Scale.mono_l : ∀ k, (∀ y0 y1, LeO (psalteryref13_Scale.l0 k y0 y1) (psalteryref13_Scale.l0 (k + 1) y0 y1))
  | 0 => fun _ _ r h => by simp [psalteryref13_Scale.l0] at h
  | k + 1 => by
    have ih0 := psalteryref13_Scale.mono_l k
    · intro y0 y1
      unfold psalteryref13_Scale.l0
      repeat' first
      | (with_reducible exact ih0 _ _)
      | (with_reducible exact psalteryref13_power.mono _ _)
      | (with_reducible exact LeO.refl _)
      | (with_reducible exact LeO.none _)
      | (with_reducible refine LeO.ite ?_ ?_)
      | (with_reducible refine LeO.bind ?_ (fun _ => ?_))
      | exact ih0 _ _
      | exact psalteryref13_power.mono _ _
      | exact LeO.none _
      | refine LeO.ite ?_ ?_
      | refine LeO.bind ?_ (fun _ => ?_)
theorem psalteryref13_Scale.mono : ∀ a0 k, LeO (psalteryref13_Scale.f k a0) (psalteryref13_Scale.f (k + 1) a0) := by
  intro a0 k
  have ih0 := psalteryref13_Scale.mono_l k
  unfold psalteryref13_Scale.f
  repeat' first
      | (with_reducible exact ih0 _ _)
      | (with_reducible exact psalteryref13_power.mono _ _)
      | (with_reducible exact LeO.refl _)
      | (with_reducible exact LeO.none _)
      | (with_reducible refine LeO.ite ?_ ?_)
      | (with_reducible refine LeO.bind ?_ (fun _ => ?_))
      | exact ih0 _ _
      | exact psalteryref13_power.mono _ _
      | exact LeO.none _
      | refine LeO.ite ?_ ?_
      | refine LeO.bind ?_ (fun _ => ?_)
set_option maxHeartbeats 8000000 in
set_option maxRecDepth 100000 in
theorem psalteryref13_Scale.calls (k : Nat) (a0 : Int) (r : Int) (w : World) (h : psalteryref13_Scale.f k a0 = some r) :
    Calls Try.prog 38 #[.int .i64 a0] w fun e w' => e = .returned (.int .i64 r) ∧ Drawn0 w w' := by
  have H : (psalteryref13_Scale.l0 k a0 0) = some r := h
  clear h
  have H' := Aside0.mk H
  clear H
  go_enter Try.func38, Try.ntmps38
  go_wp2
  go_loopg [3] k (fun kq v3 w' => ∃ (x3_1 : Int), v3 = .int .i64 x3_1 ∧ Aside0 (psalteryref13_Scale.l0 kq a0 x3_1 = some r) ∧ Aside0 (kq ≤ k) ∧ Drawn0 w w')
  case atStart => exact ⟨(0), (by first | rfl | (simp; done) | (simp [*]; done)), H', ⟨Nat.le_refl _⟩, by repeat (first | exact Drawn0.refl _ | apply Drawn0.step)⟩
  case round =>
    clear H'
    obtain ⟨x3_1, rfl, HA, HK1, ⟨m1, rfl⟩⟩ := hrel
    cases gk with
    | zero => exact absurd HA.out (by simp [psalteryref13_Scale.l0])
    | succ k1 =>
      have H := HA.out
      clear HA
      simp only [psalteryref13_Scale.l0] at H
      by_cases c2 : x3_1 < 15
      · rw [if_pos c2] at H
        have c2b0 : decide (x3_1 < 15) = true := decide_eq_true c2
        clear c2
        replace H := Option.bind_eq_some_iff.mp H
        obtain ⟨t125, A30, H⟩ := H
        replace H : (if t125 > a0 then (some x3_1) else (psalteryref13_Scale.l0 k1 a0 (wrap64 (x3_1 + 1)))) = some r := H
        have A3 := Aside0.mk A30
        clear A30
        by_cases c4 : t125 > a0
        · rw [if_pos c4] at H
          have c4b0 : decide (a0 < t125) = true := decide_eq_true c4
          clear c4
          obtain rfl := Option.some.inj H
          go_wp2_with (first | ((with_reducible refine gate_callee (f := 67) rfl ?_); refine goesL_ (some 10) rfl rfl Try.func67 (by kernel_rfl) rfl #[.int .i64 (wrap64 (x3_1 + 1))] rfl (by (try simp only [List.map_toArray, List.map_cons, List.map_nil]); first | done | rfl | (simp only [List.length_drop, List.length_take]; rfl)) ?_; (with_reducible refine (psalteryref13_power.calls k1 (wrap64 (x3_1 + 1)) t125 _ A3.out).mono ?_); rintro e w' ⟨rfl, ⟨nd, rfl⟩⟩; refine ⟨_, rfl, ?_⟩))
          go_ret
          exact ⟨by first | rfl | (simp; done) | (simp [*]; done), by repeat (first | exact Drawn0.refl _ | apply Drawn0.step)⟩
        · rw [if_neg c4] at H
          have c4b0 : decide (a0 < t125) = false := decide_eq_false c4
          clear c4
          have H' := Aside0.mk H
          clear H
          go_wp2_with (first | ((with_reducible refine gate_callee (f := 67) rfl ?_); refine goesL_ (some 10) rfl rfl Try.func67 (by kernel_rfl) rfl #[.int .i64 (wrap64 (x3_1 + 1))] rfl (by (try simp only [List.map_toArray, List.map_cons, List.map_nil]); first | done | rfl | (simp only [List.length_drop, List.length_take]; rfl)) ?_; (with_reducible refine (psalteryref13_power.calls k1 (wrap64 (x3_1 + 1)) t125 _ A3.out).mono ?_); rintro e w' ⟨rfl, ⟨nd, rfl⟩⟩; refine ⟨_, rfl, ?_⟩))
          go_roundg k1
          case measure => have := HK1.out; omega
          case rel => exact ⟨(wrap64 (x3_1 + 1)), (by first | rfl | (simp; done) | (simp [*]; done)), H', ⟨by have := HK1.out; omega⟩, by repeat (first | exact Drawn0.refl _ | apply Drawn0.step)⟩
      · rw [if_neg c2] at H
        have c2b0 : decide (x3_1 < 15) = false := decide_eq_false c2
        clear c2
        obtain rfl := Option.some.inj H
        go_wp2
        go_ret
        exact ⟨by first | rfl | (simp; done) | (simp [*]; done), by repeat (first | exact Drawn0.refl _ | apply Drawn0.step)⟩

/-! ### psalterylaw13_QuantLevels: function 7 -/
def psalterylaw13_QuantLevels.f (k : Nat) (a0 : Int) (a1 : Int) (a2 : Int) (a3 : Int) (a4 : Int) : Option (Bool) := (psalterylaw13_alive.f k).bind fun t126 => (if t126 = true then ((quant_Quant.f a1 a3 a4).bind fun bt127 => ((psalteryref13_Quant.f k a1 a3 a4).bind fun bt129 => ((quant_Level.f k a2 a3 a4).bind fun bt131 => ((psalteryref13_Level.f k a2 a3 a4).bind fun bt133 => ((quant_Scale.f k a0).bind fun t135 => ((psalteryref13_Scale.f k a0).bind fun t136 => (if t135 = t136 then (if bt127.1 = bt129.1 then (if bt127.2 = bt129.2 then (if bt131.1 = bt133.1 then (some (bt131.2 == bt133.2)) else (some false)) else (some false)) else (some false)) else (some false)))))))) else (some false))
theorem psalterylaw13_QuantLevels.mono : ∀ a0 a1 a2 a3 a4 k, LeO (psalterylaw13_QuantLevels.f k a0 a1 a2 a3 a4) (psalterylaw13_QuantLevels.f (k + 1) a0 a1 a2 a3 a4) := by
  intro a0 a1 a2 a3 a4 k
  unfold psalterylaw13_QuantLevels.f
  repeat' first
      | (with_reducible exact psalterylaw13_alive.mono _)
      | (with_reducible exact psalteryref13_Level.mono _ _ _ _)
      | (with_reducible exact psalteryref13_Quant.mono _ _ _ _)
      | (with_reducible exact psalteryref13_Scale.mono _ _)
      | (with_reducible exact quant_Level.mono _ _ _ _)
      | (with_reducible exact quant_Scale.mono _ _)
      | (with_reducible exact LeO.refl _)
      | (with_reducible exact LeO.none _)
      | (with_reducible refine LeO.ite ?_ ?_)
      | (with_reducible refine LeO.bind ?_ (fun _ => ?_))
      | exact psalterylaw13_alive.mono _
      | exact psalteryref13_Level.mono _ _ _ _
      | exact psalteryref13_Quant.mono _ _ _ _
      | exact psalteryref13_Scale.mono _ _
      | exact quant_Level.mono _ _ _ _
      | exact quant_Scale.mono _ _
      | exact LeO.none _
      | refine LeO.ite ?_ ?_
      | refine LeO.bind ?_ (fun _ => ?_)
set_option maxHeartbeats 8000000 in
set_option maxRecDepth 100000 in
theorem psalterylaw13_QuantLevels.calls (k : Nat) (a0 : Int) (a1 : Int) (a2 : Int) (a3 : Int) (a4 : Int) (r : Bool) (w : World) (h : psalterylaw13_QuantLevels.f k a0 a1 a2 a3 a4 = some r) :
    Calls Try.prog 7 #[.int .i64 a0, .int .i32 a1, .int .i64 a2, .int .i64 a3, .int .i64 a4] w fun e w' => e = .returned (.bool r) ∧ Drawn0 w w' := by
  have H : ((psalterylaw13_alive.f k).bind fun t126 => (if t126 = true then ((quant_Quant.f a1 a3 a4).bind fun bt127 => ((psalteryref13_Quant.f k a1 a3 a4).bind fun bt129 => ((quant_Level.f k a2 a3 a4).bind fun bt131 => ((psalteryref13_Level.f k a2 a3 a4).bind fun bt133 => ((quant_Scale.f k a0).bind fun t135 => ((psalteryref13_Scale.f k a0).bind fun t136 => (if t135 = t136 then (if bt127.1 = bt129.1 then (if bt127.2 = bt129.2 then (if bt131.1 = bt133.1 then (some (bt131.2 == bt133.2)) else (some false)) else (some false)) else (some false)) else (some false)))))))) else (some false))) = some r := h
  clear h
  replace H := Option.bind_eq_some_iff.mp H
  obtain ⟨t126, A60, H⟩ := H
  replace H : (if t126 = true then ((quant_Quant.f a1 a3 a4).bind fun bt127 => ((psalteryref13_Quant.f k a1 a3 a4).bind fun bt129 => ((quant_Level.f k a2 a3 a4).bind fun bt131 => ((psalteryref13_Level.f k a2 a3 a4).bind fun bt133 => ((quant_Scale.f k a0).bind fun t135 => ((psalteryref13_Scale.f k a0).bind fun t136 => (if t135 = t136 then (if bt127.1 = bt129.1 then (if bt127.2 = bt129.2 then (if bt131.1 = bt133.1 then (some (bt131.2 == bt133.2)) else (some false)) else (some false)) else (some false)) else (some false)))))))) else (some false)) = some r := H
  have A6 := Aside0.mk A60
  clear A60
  by_cases c7 : t126 = true
  · subst c7
    have H1 : ((quant_Quant.f a1 a3 a4).bind fun bt127 => ((psalteryref13_Quant.f k a1 a3 a4).bind fun bt129 => ((quant_Level.f k a2 a3 a4).bind fun bt131 => ((psalteryref13_Level.f k a2 a3 a4).bind fun bt133 => ((quant_Scale.f k a0).bind fun t135 => ((psalteryref13_Scale.f k a0).bind fun t136 => (if t135 = t136 then (if bt127.1 = bt129.1 then (if bt127.2 = bt129.2 then (if bt131.1 = bt133.1 then (some (bt131.2 == bt133.2)) else (some false)) else (some false)) else (some false)) else (some false)))))))) = some r := by rw [if_pos rfl] at H; exact H
    clear H
    have H := H1
    clear H1
    replace H := Option.bind_eq_some_iff.mp H
    obtain ⟨⟨t127, t128⟩, A80, H⟩ := H
    replace H : ((psalteryref13_Quant.f k a1 a3 a4).bind fun bt129 => ((quant_Level.f k a2 a3 a4).bind fun bt131 => ((psalteryref13_Level.f k a2 a3 a4).bind fun bt133 => ((quant_Scale.f k a0).bind fun t135 => ((psalteryref13_Scale.f k a0).bind fun t136 => (if t135 = t136 then (if t127 = bt129.1 then (if t128 = bt129.2 then (if bt131.1 = bt133.1 then (some (bt131.2 == bt133.2)) else (some false)) else (some false)) else (some false)) else (some false))))))) = some r := H
    have A8 := Aside0.mk A80
    clear A80
    replace H := Option.bind_eq_some_iff.mp H
    obtain ⟨⟨t129, t130⟩, A90, H⟩ := H
    replace H : ((quant_Level.f k a2 a3 a4).bind fun bt131 => ((psalteryref13_Level.f k a2 a3 a4).bind fun bt133 => ((quant_Scale.f k a0).bind fun t135 => ((psalteryref13_Scale.f k a0).bind fun t136 => (if t135 = t136 then (if t127 = t129 then (if t128 = t130 then (if bt131.1 = bt133.1 then (some (bt131.2 == bt133.2)) else (some false)) else (some false)) else (some false)) else (some false)))))) = some r := H
    have A9 := Aside0.mk A90
    clear A90
    replace H := Option.bind_eq_some_iff.mp H
    obtain ⟨⟨t131, t132⟩, A100, H⟩ := H
    replace H : ((psalteryref13_Level.f k a2 a3 a4).bind fun bt133 => ((quant_Scale.f k a0).bind fun t135 => ((psalteryref13_Scale.f k a0).bind fun t136 => (if t135 = t136 then (if t127 = t129 then (if t128 = t130 then (if t131 = bt133.1 then (some (t132 == bt133.2)) else (some false)) else (some false)) else (some false)) else (some false))))) = some r := H
    have A10 := Aside0.mk A100
    clear A100
    replace H := Option.bind_eq_some_iff.mp H
    obtain ⟨⟨t133, t134⟩, A110, H⟩ := H
    replace H : ((quant_Scale.f k a0).bind fun t135 => ((psalteryref13_Scale.f k a0).bind fun t136 => (if t135 = t136 then (if t127 = t129 then (if t128 = t130 then (if t131 = t133 then (some (t132 == t134)) else (some false)) else (some false)) else (some false)) else (some false)))) = some r := H
    have A11 := Aside0.mk A110
    clear A110
    replace H := Option.bind_eq_some_iff.mp H
    obtain ⟨t135, A120, H⟩ := H
    replace H : ((psalteryref13_Scale.f k a0).bind fun t136 => (if t135 = t136 then (if t127 = t129 then (if t128 = t130 then (if t131 = t133 then (some (t132 == t134)) else (some false)) else (some false)) else (some false)) else (some false))) = some r := H
    have A12 := Aside0.mk A120
    clear A120
    replace H := Option.bind_eq_some_iff.mp H
    obtain ⟨t136, A130, H⟩ := H
    replace H : (if t135 = t136 then (if t127 = t129 then (if t128 = t130 then (if t131 = t133 then (some (t132 == t134)) else (some false)) else (some false)) else (some false)) else (some false)) = some r := H
    have A13 := Aside0.mk A130
    clear A130
    by_cases c14 : t135 = t136
    · rw [if_pos c14] at H
      have c14b0 : (t135 == t136) = true := beq_iff_eq.mpr c14
      have c14b1 : (t135 != t136) = false := bne_eq_false_iff_eq.mpr c14
      clear c14
      by_cases c15 : t127 = t129
      · rw [if_pos c15] at H
        have c15b0 : (t127 == t129) = true := beq_iff_eq.mpr c15
        have c15b1 : (t127 != t129) = false := bne_eq_false_iff_eq.mpr c15
        clear c15
        by_cases c16 : t128 = t130
        · rw [if_pos c16] at H
          have c16b0 : (t128 == t130) = true := beq_iff_eq.mpr c16
          have c16b1 : (t128 != t130) = false := bne_eq_false_iff_eq.mpr c16
          clear c16
          by_cases c17 : t131 = t133
          · rw [if_pos c17] at H
            have c17b0 : (t131 == t133) = true := beq_iff_eq.mpr c17
            have c17b1 : (t131 != t133) = false := bne_eq_false_iff_eq.mpr c17
            clear c17
            obtain rfl := Option.some.inj H
            go_enter Try.func7, Try.ntmps7
            go_wp2_with (first | ((with_reducible refine gate_callee (f := 32) rfl ?_); refine goesL_ (some 19) rfl rfl Try.func32 (by kernel_rfl) rfl #[] rfl (by (try simp only [List.map_toArray, List.map_cons, List.map_nil]); first | done | rfl | (simp only [List.length_drop, List.length_take]; rfl)) ?_; (with_reducible refine (psalterylaw13_alive.calls k  true _ A6.out).mono ?_); rintro e w' ⟨rfl, ⟨nd, rfl⟩⟩; refine ⟨_, rfl, ?_⟩) | ((with_reducible refine gate_callee (f := 33) rfl ?_); refine goesL_ (some 25) rfl rfl Try.func33 (by kernel_rfl) rfl #[.int .i32 a1, .int .i64 a3, .int .i64 a4] rfl (by (try simp only [List.map_toArray, List.map_cons, List.map_nil]); first | done | rfl | (simp only [List.length_drop, List.length_take]; rfl)) ?_; (with_reducible refine (quant_Quant.calls a1 a3 a4 t127 t128 _ A8.out).mono ?_); rintro e w' ⟨rfl, ⟨nd, rfl⟩⟩; refine ⟨_, rfl, ?_⟩) | ((with_reducible refine gate_callee (f := 34) rfl ?_); refine goesL_ (some 32) rfl rfl Try.func34 (by kernel_rfl) rfl #[.int .i32 a1, .int .i64 a3, .int .i64 a4] rfl (by (try simp only [List.map_toArray, List.map_cons, List.map_nil]); first | done | rfl | (simp only [List.length_drop, List.length_take]; rfl)) ?_; (with_reducible refine (psalteryref13_Quant.calls k a1 a3 a4 t129 t130 _ A9.out).mono ?_); rintro e w' ⟨rfl, ⟨nd, rfl⟩⟩; refine ⟨_, rfl, ?_⟩) | ((with_reducible refine gate_callee (f := 35) rfl ?_); refine goesL_ (some 39) rfl rfl Try.func35 (by kernel_rfl) rfl #[.int .i64 a2, .int .i64 a3, .int .i64 a4] rfl (by (try simp only [List.map_toArray, List.map_cons, List.map_nil]); first | done | rfl | (simp only [List.length_drop, List.length_take]; rfl)) ?_; (with_reducible refine (quant_Level.calls k a2 a3 a4 t131 t132 _ A10.out).mono ?_); rintro e w' ⟨rfl, ⟨nd, rfl⟩⟩; refine ⟨_, rfl, ?_⟩) | ((with_reducible refine gate_callee (f := 36) rfl ?_); refine goesL_ (some 46) rfl rfl Try.func36 (by kernel_rfl) rfl #[.int .i64 a2, .int .i64 a3, .int .i64 a4] rfl (by (try simp only [List.map_toArray, List.map_cons, List.map_nil]); first | done | rfl | (simp only [List.length_drop, List.length_take]; rfl)) ?_; (with_reducible refine (psalteryref13_Level.calls k a2 a3 a4 t133 t134 _ A11.out).mono ?_); rintro e w' ⟨rfl, ⟨nd, rfl⟩⟩; refine ⟨_, rfl, ?_⟩) | ((with_reducible refine gate_callee (f := 37) rfl ?_); refine goesL_ (some 50) rfl rfl Try.func37 (by kernel_rfl) rfl #[.int .i64 a0] rfl (by (try simp only [List.map_toArray, List.map_cons, List.map_nil]); first | done | rfl | (simp only [List.length_drop, List.length_take]; rfl)) ?_; (with_reducible refine (quant_Scale.calls k a0 t135 _ A12.out).mono ?_); rintro e w' ⟨rfl, ⟨nd, rfl⟩⟩; refine ⟨_, rfl, ?_⟩) | ((with_reducible refine gate_callee (f := 38) rfl ?_); refine goesL_ (some 52) rfl rfl Try.func38 (by kernel_rfl) rfl #[.int .i64 a0] rfl (by (try simp only [List.map_toArray, List.map_cons, List.map_nil]); first | done | rfl | (simp only [List.length_drop, List.length_take]; rfl)) ?_; (with_reducible refine (psalteryref13_Scale.calls k a0 t136 _ A13.out).mono ?_); rintro e w' ⟨rfl, ⟨nd, rfl⟩⟩; refine ⟨_, rfl, ?_⟩))
            go_ret
            exact ⟨by first | rfl | (simp; done) | (simp [*]; done), by repeat (first | exact Drawn0.refl _ | apply Drawn0.step)⟩
          · rw [if_neg c17] at H
            have c17b0 : (t131 == t133) = false := beq_eq_false_iff_ne.mpr c17
            have c17b1 : (t131 != t133) = true := bne_iff_ne.mpr c17
            obtain rfl := Option.some.inj H
            go_enter Try.func7, Try.ntmps7
            go_wp2_with (first | ((with_reducible refine gate_callee (f := 32) rfl ?_); refine goesL_ (some 19) rfl rfl Try.func32 (by kernel_rfl) rfl #[] rfl (by (try simp only [List.map_toArray, List.map_cons, List.map_nil]); first | done | rfl | (simp only [List.length_drop, List.length_take]; rfl)) ?_; (with_reducible refine (psalterylaw13_alive.calls k  true _ A6.out).mono ?_); rintro e w' ⟨rfl, ⟨nd, rfl⟩⟩; refine ⟨_, rfl, ?_⟩) | ((with_reducible refine gate_callee (f := 33) rfl ?_); refine goesL_ (some 25) rfl rfl Try.func33 (by kernel_rfl) rfl #[.int .i32 a1, .int .i64 a3, .int .i64 a4] rfl (by (try simp only [List.map_toArray, List.map_cons, List.map_nil]); first | done | rfl | (simp only [List.length_drop, List.length_take]; rfl)) ?_; (with_reducible refine (quant_Quant.calls a1 a3 a4 t127 t128 _ A8.out).mono ?_); rintro e w' ⟨rfl, ⟨nd, rfl⟩⟩; refine ⟨_, rfl, ?_⟩) | ((with_reducible refine gate_callee (f := 34) rfl ?_); refine goesL_ (some 32) rfl rfl Try.func34 (by kernel_rfl) rfl #[.int .i32 a1, .int .i64 a3, .int .i64 a4] rfl (by (try simp only [List.map_toArray, List.map_cons, List.map_nil]); first | done | rfl | (simp only [List.length_drop, List.length_take]; rfl)) ?_; (with_reducible refine (psalteryref13_Quant.calls k a1 a3 a4 t129 t130 _ A9.out).mono ?_); rintro e w' ⟨rfl, ⟨nd, rfl⟩⟩; refine ⟨_, rfl, ?_⟩) | ((with_reducible refine gate_callee (f := 35) rfl ?_); refine goesL_ (some 39) rfl rfl Try.func35 (by kernel_rfl) rfl #[.int .i64 a2, .int .i64 a3, .int .i64 a4] rfl (by (try simp only [List.map_toArray, List.map_cons, List.map_nil]); first | done | rfl | (simp only [List.length_drop, List.length_take]; rfl)) ?_; (with_reducible refine (quant_Level.calls k a2 a3 a4 t131 t132 _ A10.out).mono ?_); rintro e w' ⟨rfl, ⟨nd, rfl⟩⟩; refine ⟨_, rfl, ?_⟩) | ((with_reducible refine gate_callee (f := 36) rfl ?_); refine goesL_ (some 46) rfl rfl Try.func36 (by kernel_rfl) rfl #[.int .i64 a2, .int .i64 a3, .int .i64 a4] rfl (by (try simp only [List.map_toArray, List.map_cons, List.map_nil]); first | done | rfl | (simp only [List.length_drop, List.length_take]; rfl)) ?_; (with_reducible refine (psalteryref13_Level.calls k a2 a3 a4 t133 t134 _ A11.out).mono ?_); rintro e w' ⟨rfl, ⟨nd, rfl⟩⟩; refine ⟨_, rfl, ?_⟩) | ((with_reducible refine gate_callee (f := 37) rfl ?_); refine goesL_ (some 50) rfl rfl Try.func37 (by kernel_rfl) rfl #[.int .i64 a0] rfl (by (try simp only [List.map_toArray, List.map_cons, List.map_nil]); first | done | rfl | (simp only [List.length_drop, List.length_take]; rfl)) ?_; (with_reducible refine (quant_Scale.calls k a0 t135 _ A12.out).mono ?_); rintro e w' ⟨rfl, ⟨nd, rfl⟩⟩; refine ⟨_, rfl, ?_⟩) | ((with_reducible refine gate_callee (f := 38) rfl ?_); refine goesL_ (some 52) rfl rfl Try.func38 (by kernel_rfl) rfl #[.int .i64 a0] rfl (by (try simp only [List.map_toArray, List.map_cons, List.map_nil]); first | done | rfl | (simp only [List.length_drop, List.length_take]; rfl)) ?_; (with_reducible refine (psalteryref13_Scale.calls k a0 t136 _ A13.out).mono ?_); rintro e w' ⟨rfl, ⟨nd, rfl⟩⟩; refine ⟨_, rfl, ?_⟩))
            go_ret
            exact ⟨by first | rfl | (simp; done) | (simp [*]; done), by repeat (first | exact Drawn0.refl _ | apply Drawn0.step)⟩
        · rw [if_neg c16] at H
          have c16b0 : (t128 == t130) = false := beq_eq_false_iff_ne.mpr c16
          have c16b1 : (t128 != t130) = true := bne_iff_ne.mpr c16
          obtain rfl := Option.some.inj H
          go_enter Try.func7, Try.ntmps7
          go_wp2_with (first | ((with_reducible refine gate_callee (f := 32) rfl ?_); refine goesL_ (some 19) rfl rfl Try.func32 (by kernel_rfl) rfl #[] rfl (by (try simp only [List.map_toArray, List.map_cons, List.map_nil]); first | done | rfl | (simp only [List.length_drop, List.length_take]; rfl)) ?_; (with_reducible refine (psalterylaw13_alive.calls k  true _ A6.out).mono ?_); rintro e w' ⟨rfl, ⟨nd, rfl⟩⟩; refine ⟨_, rfl, ?_⟩) | ((with_reducible refine gate_callee (f := 33) rfl ?_); refine goesL_ (some 25) rfl rfl Try.func33 (by kernel_rfl) rfl #[.int .i32 a1, .int .i64 a3, .int .i64 a4] rfl (by (try simp only [List.map_toArray, List.map_cons, List.map_nil]); first | done | rfl | (simp only [List.length_drop, List.length_take]; rfl)) ?_; (with_reducible refine (quant_Quant.calls a1 a3 a4 t127 t128 _ A8.out).mono ?_); rintro e w' ⟨rfl, ⟨nd, rfl⟩⟩; refine ⟨_, rfl, ?_⟩) | ((with_reducible refine gate_callee (f := 34) rfl ?_); refine goesL_ (some 32) rfl rfl Try.func34 (by kernel_rfl) rfl #[.int .i32 a1, .int .i64 a3, .int .i64 a4] rfl (by (try simp only [List.map_toArray, List.map_cons, List.map_nil]); first | done | rfl | (simp only [List.length_drop, List.length_take]; rfl)) ?_; (with_reducible refine (psalteryref13_Quant.calls k a1 a3 a4 t129 t130 _ A9.out).mono ?_); rintro e w' ⟨rfl, ⟨nd, rfl⟩⟩; refine ⟨_, rfl, ?_⟩) | ((with_reducible refine gate_callee (f := 35) rfl ?_); refine goesL_ (some 39) rfl rfl Try.func35 (by kernel_rfl) rfl #[.int .i64 a2, .int .i64 a3, .int .i64 a4] rfl (by (try simp only [List.map_toArray, List.map_cons, List.map_nil]); first | done | rfl | (simp only [List.length_drop, List.length_take]; rfl)) ?_; (with_reducible refine (quant_Level.calls k a2 a3 a4 t131 t132 _ A10.out).mono ?_); rintro e w' ⟨rfl, ⟨nd, rfl⟩⟩; refine ⟨_, rfl, ?_⟩) | ((with_reducible refine gate_callee (f := 36) rfl ?_); refine goesL_ (some 46) rfl rfl Try.func36 (by kernel_rfl) rfl #[.int .i64 a2, .int .i64 a3, .int .i64 a4] rfl (by (try simp only [List.map_toArray, List.map_cons, List.map_nil]); first | done | rfl | (simp only [List.length_drop, List.length_take]; rfl)) ?_; (with_reducible refine (psalteryref13_Level.calls k a2 a3 a4 t133 t134 _ A11.out).mono ?_); rintro e w' ⟨rfl, ⟨nd, rfl⟩⟩; refine ⟨_, rfl, ?_⟩) | ((with_reducible refine gate_callee (f := 37) rfl ?_); refine goesL_ (some 50) rfl rfl Try.func37 (by kernel_rfl) rfl #[.int .i64 a0] rfl (by (try simp only [List.map_toArray, List.map_cons, List.map_nil]); first | done | rfl | (simp only [List.length_drop, List.length_take]; rfl)) ?_; (with_reducible refine (quant_Scale.calls k a0 t135 _ A12.out).mono ?_); rintro e w' ⟨rfl, ⟨nd, rfl⟩⟩; refine ⟨_, rfl, ?_⟩) | ((with_reducible refine gate_callee (f := 38) rfl ?_); refine goesL_ (some 52) rfl rfl Try.func38 (by kernel_rfl) rfl #[.int .i64 a0] rfl (by (try simp only [List.map_toArray, List.map_cons, List.map_nil]); first | done | rfl | (simp only [List.length_drop, List.length_take]; rfl)) ?_; (with_reducible refine (psalteryref13_Scale.calls k a0 t136 _ A13.out).mono ?_); rintro e w' ⟨rfl, ⟨nd, rfl⟩⟩; refine ⟨_, rfl, ?_⟩))
          go_ret
          exact ⟨by first | rfl | (simp; done) | (simp [*]; done), by repeat (first | exact Drawn0.refl _ | apply Drawn0.step)⟩
      · rw [if_neg c15] at H
        have c15b0 : (t127 == t129) = false := beq_eq_false_iff_ne.mpr c15
        have c15b1 : (t127 != t129) = true := bne_iff_ne.mpr c15
        obtain rfl := Option.some.inj H
        go_enter Try.func7, Try.ntmps7
        go_wp2_with (first | ((with_reducible refine gate_callee (f := 32) rfl ?_); refine goesL_ (some 19) rfl rfl Try.func32 (by kernel_rfl) rfl #[] rfl (by (try simp only [List.map_toArray, List.map_cons, List.map_nil]); first | done | rfl | (simp only [List.length_drop, List.length_take]; rfl)) ?_; (with_reducible refine (psalterylaw13_alive.calls k  true _ A6.out).mono ?_); rintro e w' ⟨rfl, ⟨nd, rfl⟩⟩; refine ⟨_, rfl, ?_⟩) | ((with_reducible refine gate_callee (f := 33) rfl ?_); refine goesL_ (some 25) rfl rfl Try.func33 (by kernel_rfl) rfl #[.int .i32 a1, .int .i64 a3, .int .i64 a4] rfl (by (try simp only [List.map_toArray, List.map_cons, List.map_nil]); first | done | rfl | (simp only [List.length_drop, List.length_take]; rfl)) ?_; (with_reducible refine (quant_Quant.calls a1 a3 a4 t127 t128 _ A8.out).mono ?_); rintro e w' ⟨rfl, ⟨nd, rfl⟩⟩; refine ⟨_, rfl, ?_⟩) | ((with_reducible refine gate_callee (f := 34) rfl ?_); refine goesL_ (some 32) rfl rfl Try.func34 (by kernel_rfl) rfl #[.int .i32 a1, .int .i64 a3, .int .i64 a4] rfl (by (try simp only [List.map_toArray, List.map_cons, List.map_nil]); first | done | rfl | (simp only [List.length_drop, List.length_take]; rfl)) ?_; (with_reducible refine (psalteryref13_Quant.calls k a1 a3 a4 t129 t130 _ A9.out).mono ?_); rintro e w' ⟨rfl, ⟨nd, rfl⟩⟩; refine ⟨_, rfl, ?_⟩) | ((with_reducible refine gate_callee (f := 35) rfl ?_); refine goesL_ (some 39) rfl rfl Try.func35 (by kernel_rfl) rfl #[.int .i64 a2, .int .i64 a3, .int .i64 a4] rfl (by (try simp only [List.map_toArray, List.map_cons, List.map_nil]); first | done | rfl | (simp only [List.length_drop, List.length_take]; rfl)) ?_; (with_reducible refine (quant_Level.calls k a2 a3 a4 t131 t132 _ A10.out).mono ?_); rintro e w' ⟨rfl, ⟨nd, rfl⟩⟩; refine ⟨_, rfl, ?_⟩) | ((with_reducible refine gate_callee (f := 36) rfl ?_); refine goesL_ (some 46) rfl rfl Try.func36 (by kernel_rfl) rfl #[.int .i64 a2, .int .i64 a3, .int .i64 a4] rfl (by (try simp only [List.map_toArray, List.map_cons, List.map_nil]); first | done | rfl | (simp only [List.length_drop, List.length_take]; rfl)) ?_; (with_reducible refine (psalteryref13_Level.calls k a2 a3 a4 t133 t134 _ A11.out).mono ?_); rintro e w' ⟨rfl, ⟨nd, rfl⟩⟩; refine ⟨_, rfl, ?_⟩) | ((with_reducible refine gate_callee (f := 37) rfl ?_); refine goesL_ (some 50) rfl rfl Try.func37 (by kernel_rfl) rfl #[.int .i64 a0] rfl (by (try simp only [List.map_toArray, List.map_cons, List.map_nil]); first | done | rfl | (simp only [List.length_drop, List.length_take]; rfl)) ?_; (with_reducible refine (quant_Scale.calls k a0 t135 _ A12.out).mono ?_); rintro e w' ⟨rfl, ⟨nd, rfl⟩⟩; refine ⟨_, rfl, ?_⟩) | ((with_reducible refine gate_callee (f := 38) rfl ?_); refine goesL_ (some 52) rfl rfl Try.func38 (by kernel_rfl) rfl #[.int .i64 a0] rfl (by (try simp only [List.map_toArray, List.map_cons, List.map_nil]); first | done | rfl | (simp only [List.length_drop, List.length_take]; rfl)) ?_; (with_reducible refine (psalteryref13_Scale.calls k a0 t136 _ A13.out).mono ?_); rintro e w' ⟨rfl, ⟨nd, rfl⟩⟩; refine ⟨_, rfl, ?_⟩))
        go_ret
        exact ⟨by first | rfl | (simp; done) | (simp [*]; done), by repeat (first | exact Drawn0.refl _ | apply Drawn0.step)⟩
    · rw [if_neg c14] at H
      have c14b0 : (t135 == t136) = false := beq_eq_false_iff_ne.mpr c14
      have c14b1 : (t135 != t136) = true := bne_iff_ne.mpr c14
      obtain rfl := Option.some.inj H
      go_enter Try.func7, Try.ntmps7
      go_wp2_with (first | ((with_reducible refine gate_callee (f := 32) rfl ?_); refine goesL_ (some 19) rfl rfl Try.func32 (by kernel_rfl) rfl #[] rfl (by (try simp only [List.map_toArray, List.map_cons, List.map_nil]); first | done | rfl | (simp only [List.length_drop, List.length_take]; rfl)) ?_; (with_reducible refine (psalterylaw13_alive.calls k  true _ A6.out).mono ?_); rintro e w' ⟨rfl, ⟨nd, rfl⟩⟩; refine ⟨_, rfl, ?_⟩) | ((with_reducible refine gate_callee (f := 33) rfl ?_); refine goesL_ (some 25) rfl rfl Try.func33 (by kernel_rfl) rfl #[.int .i32 a1, .int .i64 a3, .int .i64 a4] rfl (by (try simp only [List.map_toArray, List.map_cons, List.map_nil]); first | done | rfl | (simp only [List.length_drop, List.length_take]; rfl)) ?_; (with_reducible refine (quant_Quant.calls a1 a3 a4 t127 t128 _ A8.out).mono ?_); rintro e w' ⟨rfl, ⟨nd, rfl⟩⟩; refine ⟨_, rfl, ?_⟩) | ((with_reducible refine gate_callee (f := 34) rfl ?_); refine goesL_ (some 32) rfl rfl Try.func34 (by kernel_rfl) rfl #[.int .i32 a1, .int .i64 a3, .int .i64 a4] rfl (by (try simp only [List.map_toArray, List.map_cons, List.map_nil]); first | done | rfl | (simp only [List.length_drop, List.length_take]; rfl)) ?_; (with_reducible refine (psalteryref13_Quant.calls k a1 a3 a4 t129 t130 _ A9.out).mono ?_); rintro e w' ⟨rfl, ⟨nd, rfl⟩⟩; refine ⟨_, rfl, ?_⟩) | ((with_reducible refine gate_callee (f := 35) rfl ?_); refine goesL_ (some 39) rfl rfl Try.func35 (by kernel_rfl) rfl #[.int .i64 a2, .int .i64 a3, .int .i64 a4] rfl (by (try simp only [List.map_toArray, List.map_cons, List.map_nil]); first | done | rfl | (simp only [List.length_drop, List.length_take]; rfl)) ?_; (with_reducible refine (quant_Level.calls k a2 a3 a4 t131 t132 _ A10.out).mono ?_); rintro e w' ⟨rfl, ⟨nd, rfl⟩⟩; refine ⟨_, rfl, ?_⟩) | ((with_reducible refine gate_callee (f := 36) rfl ?_); refine goesL_ (some 46) rfl rfl Try.func36 (by kernel_rfl) rfl #[.int .i64 a2, .int .i64 a3, .int .i64 a4] rfl (by (try simp only [List.map_toArray, List.map_cons, List.map_nil]); first | done | rfl | (simp only [List.length_drop, List.length_take]; rfl)) ?_; (with_reducible refine (psalteryref13_Level.calls k a2 a3 a4 t133 t134 _ A11.out).mono ?_); rintro e w' ⟨rfl, ⟨nd, rfl⟩⟩; refine ⟨_, rfl, ?_⟩) | ((with_reducible refine gate_callee (f := 37) rfl ?_); refine goesL_ (some 50) rfl rfl Try.func37 (by kernel_rfl) rfl #[.int .i64 a0] rfl (by (try simp only [List.map_toArray, List.map_cons, List.map_nil]); first | done | rfl | (simp only [List.length_drop, List.length_take]; rfl)) ?_; (with_reducible refine (quant_Scale.calls k a0 t135 _ A12.out).mono ?_); rintro e w' ⟨rfl, ⟨nd, rfl⟩⟩; refine ⟨_, rfl, ?_⟩) | ((with_reducible refine gate_callee (f := 38) rfl ?_); refine goesL_ (some 52) rfl rfl Try.func38 (by kernel_rfl) rfl #[.int .i64 a0] rfl (by (try simp only [List.map_toArray, List.map_cons, List.map_nil]); first | done | rfl | (simp only [List.length_drop, List.length_take]; rfl)) ?_; (with_reducible refine (psalteryref13_Scale.calls k a0 t136 _ A13.out).mono ?_); rintro e w' ⟨rfl, ⟨nd, rfl⟩⟩; refine ⟨_, rfl, ?_⟩))
      go_ret
      exact ⟨by first | rfl | (simp; done) | (simp [*]; done), by repeat (first | exact Drawn0.refl _ | apply Drawn0.step)⟩
  · replace c7 := Bool.eq_false_iff.mpr c7
    subst c7
    have H1 : (some false) = some r := by rw [if_neg (show ¬ (false = true) by decide)] at H; exact H
    clear H
    have H := H1
    clear H1
    obtain rfl := Option.some.inj H
    go_enter Try.func7, Try.ntmps7
    go_wp2_with (first | ((with_reducible refine gate_callee (f := 32) rfl ?_); refine goesL_ (some 19) rfl rfl Try.func32 (by kernel_rfl) rfl #[] rfl (by (try simp only [List.map_toArray, List.map_cons, List.map_nil]); first | done | rfl | (simp only [List.length_drop, List.length_take]; rfl)) ?_; (with_reducible refine (psalterylaw13_alive.calls k  false _ A6.out).mono ?_); rintro e w' ⟨rfl, ⟨nd, rfl⟩⟩; refine ⟨_, rfl, ?_⟩))
    go_ret
    exact ⟨by first | rfl | (simp; done) | (simp [*]; done), by repeat (first | exact Drawn0.refl _ | apply Drawn0.step)⟩

/-- THE ONE PURE STATEMENT of psalterylaw13_QuantLevels: yours. -/
def psalterylaw13_QuantLevels.Pure : Prop := ∀ (a0 : Int) (a1 : Int) (a2 : Int) (a3 : Int) (a4 : Int), (Lit.int .i64 a0).wf = true → (Lit.int .i32 a1).wf = true → (Lit.int .i64 a2).wf = true → (Lit.int .i64 a3).wf = true → (Lit.int .i64 a4).wf = true → ∃ k, psalterylaw13_QuantLevels.f k a0 a1 a2 a3 a4 = some true
theorem psalterylaw13_QuantLevels.walk (P : psalterylaw13_QuantLevels.Pure) (a0 : Int) (a1 : Int) (a2 : Int) (a3 : Int) (a4 : Int) (w : World) (w0 : (Lit.int .i64 a0).wf = true) (w1 : (Lit.int .i32 a1).wf = true) (w2 : (Lit.int .i64 a2).wf = true) (w3 : (Lit.int .i64 a3).wf = true) (w4 : (Lit.int .i64 a4).wf = true) :
    Calls Try.prog 7 #[.int .i64 a0, .int .i32 a1, .int .i64 a2, .int .i64 a3, .int .i64 a4] w fun e w' => e = .returned (.bool true) ∧ Below w.heap.size w w' := by
  obtain ⟨k, h⟩ := P a0 a1 a2 a3 a4 w0 w1 w2 w3 w4
  refine (psalterylaw13_QuantLevels.calls k a0 a1 a2 a3 a4 true w h).mono ?_
  rintro e w' ⟨rfl, hd⟩
  exact ⟨rfl, hd.below⟩

/-! ### psalterylaw13_QuantNear: function 8 -/
def psalterylaw13_QuantNear.j0 : Nat → Int → Int → Int → Int → Bool → Option (Bool)
  | 0, _, _, _, _, _ => none
  | k + 1, x0, x1, x2, x7, x32 => if x32 = true then (some (x7 == 0)) else (if 0 ≤ (IntKind.u64.wrap (x2)) then (if 0 ≤ (IntKind.u64.wrap (x1)) then ((quant_Level.f k x7 x1 x2).bind fun bt140 => ((quant_Quant.f bt140.1 x1 x2).bind fun bt142 => (if (wrap64 ((shl .i64 1 (IntKind.u64.wrap (x2))) - 1)) = 0 then (none) else (if x7 ≥ 0 then (if x7 < (wrap64 ((shl .i64 1 (IntKind.u64.wrap (x2))) - 1)) then (if bt140.2 = 0 then (if bt142.2 = 0 then (if (wrap64 ((wrap64 (bt140.1)) - (mn (mx (wrap64 (x0)) (wrap64 (1 - (shl .i64 2 (IntKind.u64.wrap (x1)))))) (wrap64 ((shl .i64 2 (IntKind.u64.wrap (x1))) - 1))))) ≤ (wrap64 ((wrap64 (Int.tdiv (wrap64 (2 * (shl .i64 2 (IntKind.u64.wrap (x1))))) (wrap64 ((shl .i64 1 (IntKind.u64.wrap (x2))) - 1)))) + 1)) then (if (wrap64 ((wrap64 (bt140.1)) - (mn (mx (wrap64 (x0)) (wrap64 (1 - (shl .i64 2 (IntKind.u64.wrap (x1)))))) (wrap64 ((shl .i64 2 (IntKind.u64.wrap (x1))) - 1))))) ≥ (wrap64 (-(wrap64 ((wrap64 (Int.tdiv (wrap64 (2 * (shl .i64 2 (IntKind.u64.wrap (x1))))) (wrap64 ((shl .i64 1 (IntKind.u64.wrap (x2))) - 1)))) + 1)))) then (if (wrap64 ((shl .i64 1 (IntKind.u64.wrap (x2))) - 1)) ≥ (shl .i64 2 (IntKind.u64.wrap (x1))) then (some true) else (some (bt142.1 == x7))) else (some false)) else (some false)) else (some false)) else (some false)) else (some false)) else (some false))))) else (none)) else (none))
def psalterylaw13_QuantNear.f (k : Nat) (a0 : Int) (a1 : Int) (a2 : Int) : Option (Bool) := (psalterylaw13_alive.f k).bind fun t137 => (if t137 = true then ((quant_Quant.f a0 a1 a2).bind fun bt138 => (if bt138.2 = 0 then (psalterylaw13_QuantNear.j0 k a0 a1 a2 bt138.1 (a2 == 0)) else (psalterylaw13_QuantNear.j0 k a0 a1 a2 bt138.1 true))) else (some false))
theorem psalterylaw13_QuantNear.mono_l : ∀ k, (∀ y0 y1 y2 y3 y4, LeO (psalterylaw13_QuantNear.j0 k y0 y1 y2 y3 y4) (psalterylaw13_QuantNear.j0 (k + 1) y0 y1 y2 y3 y4))
  | 0 => fun _ _ _ _ _ r h => by simp [psalterylaw13_QuantNear.j0] at h
  | k + 1 => by
    have ih0 := psalterylaw13_QuantNear.mono_l k
    · intro y0 y1 y2 y3 y4
      unfold psalterylaw13_QuantNear.j0
      repeat' first
      | (with_reducible exact ih0 _ _ _ _ _)
      | (with_reducible exact psalterylaw13_alive.mono _)
      | (with_reducible exact quant_Level.mono _ _ _ _)
      | (with_reducible exact LeO.refl _)
      | (with_reducible exact LeO.none _)
      | (with_reducible refine LeO.ite ?_ ?_)
      | (with_reducible refine LeO.bind ?_ (fun _ => ?_))
      | exact ih0 _ _ _ _ _
      | exact psalterylaw13_alive.mono _
      | exact quant_Level.mono _ _ _ _
      | exact LeO.none _
      | refine LeO.ite ?_ ?_
      | refine LeO.bind ?_ (fun _ => ?_)
theorem psalterylaw13_QuantNear.mono : ∀ a0 a1 a2 k, LeO (psalterylaw13_QuantNear.f k a0 a1 a2) (psalterylaw13_QuantNear.f (k + 1) a0 a1 a2) := by
  intro a0 a1 a2 k
  have ih0 := psalterylaw13_QuantNear.mono_l k
  unfold psalterylaw13_QuantNear.f
  repeat' first
      | (with_reducible exact ih0 _ _ _ _ _)
      | (with_reducible exact psalterylaw13_alive.mono _)
      | (with_reducible exact quant_Level.mono _ _ _ _)
      | (with_reducible exact LeO.refl _)
      | (with_reducible exact LeO.none _)
      | (with_reducible refine LeO.ite ?_ ?_)
      | (with_reducible refine LeO.bind ?_ (fun _ => ?_))
      | exact ih0 _ _ _ _ _
      | exact psalterylaw13_alive.mono _
      | exact quant_Level.mono _ _ _ _
      | exact LeO.none _
      | refine LeO.ite ?_ ?_
      | refine LeO.bind ?_ (fun _ => ?_)
set_option maxHeartbeats 8000000 in
set_option maxRecDepth 100000 in
theorem psalterylaw13_QuantNear.calls (k : Nat) (a0 : Int) (a1 : Int) (a2 : Int) (r : Bool) (w : World) (h : psalterylaw13_QuantNear.f k a0 a1 a2 = some r) :
    Calls Try.prog 8 #[.int .i32 a0, .int .i64 a1, .int .i64 a2] w fun e w' => e = .returned (.bool r) ∧ Below w.heap.size w w' := by
  have HB := Aside0.mk (Below.refl w.heap.size w)
  have H : ((psalterylaw13_alive.f k).bind fun t137 => (if t137 = true then ((quant_Quant.f a0 a1 a2).bind fun bt138 => (if bt138.2 = 0 then (psalterylaw13_QuantNear.j0 k a0 a1 a2 bt138.1 (a2 == 0)) else (psalterylaw13_QuantNear.j0 k a0 a1 a2 bt138.1 true))) else (some false))) = some r := h
  clear h
  replace H := Option.bind_eq_some_iff.mp H
  obtain ⟨t137, A40, H⟩ := H
  replace H : (if t137 = true then ((quant_Quant.f a0 a1 a2).bind fun bt138 => (if bt138.2 = 0 then (psalterylaw13_QuantNear.j0 k a0 a1 a2 bt138.1 (a2 == 0)) else (psalterylaw13_QuantNear.j0 k a0 a1 a2 bt138.1 true))) else (some false)) = some r := H
  have A4 := Aside0.mk A40
  clear A40
  by_cases c5 : t137 = true
  · subst c5
    have H1 : ((quant_Quant.f a0 a1 a2).bind fun bt138 => (if bt138.2 = 0 then (psalterylaw13_QuantNear.j0 k a0 a1 a2 bt138.1 (a2 == 0)) else (psalterylaw13_QuantNear.j0 k a0 a1 a2 bt138.1 true))) = some r := by rw [if_pos rfl] at H; exact H
    clear H
    have H := H1
    clear H1
    replace H := Option.bind_eq_some_iff.mp H
    obtain ⟨⟨t138, t139⟩, A60, H⟩ := H
    replace H : (if t139 = 0 then (psalterylaw13_QuantNear.j0 k a0 a1 a2 t138 (a2 == 0)) else (psalterylaw13_QuantNear.j0 k a0 a1 a2 t138 true)) = some r := H
    have A6 := Aside0.mk A60
    clear A60
    have HC7 := Aside0.mk H
    clear H
    go_enter Try.func8, Try.ntmps8
    go_upto_region 4 with (first | ((with_reducible refine gate_callee (f := 32) rfl ?_); refine goesL_ (some 18) rfl rfl Try.func32 (by kernel_rfl) rfl #[] rfl (by (try simp only [List.map_toArray, List.map_cons, List.map_nil]); first | done | rfl | (simp only [List.length_drop, List.length_take]; rfl)) ?_; (with_reducible refine (psalterylaw13_alive.calls k  true _ A4.out).mono ?_); rintro e w' ⟨rfl, ⟨nd, rfl⟩⟩; refine ⟨_, rfl, ?_⟩) | ((with_reducible refine gate_callee (f := 33) rfl ?_); refine goesL_ (some 24) rfl rfl Try.func33 (by kernel_rfl) rfl #[.int .i32 a0, .int .i64 a1, .int .i64 a2] rfl (by (try simp only [List.map_toArray, List.map_cons, List.map_nil]); first | done | rfl | (simp only [List.length_drop, List.length_take]; rfl)) ?_; (with_reducible refine (quant_Quant.calls a0 a1 a2 t138 t139 _ A6.out).mono ?_); rintro e w' ⟨rfl, ⟨nd, rfl⟩⟩; refine ⟨_, rfl, ?_⟩))
    (try simp only [Act.put, List.setIfInBounds_toArray, List.set_cons_zero, List.set_cons_succ])
    go_cut [32] (fun v32 wc => ∃ (kq : Nat) (x32_6 : Bool), v32 = .bool x32_6 ∧ Aside0 (psalterylaw13_QuantNear.j0 kq a0 a1 a2 t138 x32_6 = some r) ∧ Aside0 (kq ≤ k) ∧ Aside0 (Below w.heap.size w wc))
    case first =>
      have H := HC7.out
      clear HC7
      by_cases c8 : t139 = 0
      · rw [if_pos c8] at H
        have c8b0 : (t139 == 0) = true := beq_iff_eq.mpr c8
        have c8b1 : (t139 != 0) = false := bne_eq_false_iff_eq.mpr c8
        clear c8
        (first | rw [c8b0] | (simp only [i64_w, i32_w]; rw [c8b0]) | skip)
        have H' := Aside0.mk H
        clear H
        go_wp2
        go_meet
        case rel => exact ⟨_, ((a2 == 0)), (by first | rfl | (simp; done) | (simp [*]; done)), H', ⟨by first | omega | exact Nat.le_refl _⟩, ⟨by repeat (first | (with_reducible first | exact HB.out | apply below_alloc | apply pw_below_drewN | apply below_drew1) | exact HB.out)⟩⟩
      · rw [if_neg c8] at H
        have c8b0 : (t139 == 0) = false := beq_eq_false_iff_ne.mpr c8
        have c8b1 : (t139 != 0) = true := bne_iff_ne.mpr c8
        (first | rw [c8b0] | (simp only [i64_w, i32_w]; rw [c8b0]) | skip)
        have H' := Aside0.mk H
        clear H
        go_wp2
        go_meet
        case rel => exact ⟨_, (true), (by first | rfl | (simp; done) | (simp [*]; done)), H', ⟨by first | omega | exact Nat.le_refl _⟩, ⟨by repeat (first | (with_reducible first | exact HB.out | apply below_alloc | apply pw_below_drewN | apply below_drew1) | exact HB.out)⟩⟩
    case rest =>
      clear HC7
      try clear p2
      try clear c3
      try clear c5
      try clear c8
      try clear c8b0
      try clear c8b1
      obtain ⟨kq, x32_6, rfl, HA, HJ6, HB⟩ := hcut
      cases kq with
      | zero => exact absurd HA.out (by simp [psalterylaw13_QuantNear.j0])
      | succ kj6 =>
        have H := HA.out
        clear HA
        simp only [psalterylaw13_QuantNear.j0] at H
        by_cases c9 : x32_6 = true
        · subst c9
          have H1 : (some (t138 == 0)) = some r := by rw [if_pos rfl] at H; exact H
          clear H
          have H := H1
          clear H1
          obtain rfl := Option.some.inj H
          go_wp2
          go_ret
          exact ⟨by first | rfl | (simp [errW_none, errW_some] <;> rfl) | (simp [*, errW_none, errW_some] <;> rfl), by repeat (first | (with_reducible first | exact HB.out | apply below_alloc | apply pw_below_drewN | apply below_drew1) | exact HB.out)⟩
        · replace c9 := Bool.eq_false_iff.mpr c9
          subst c9
          have H1 : (if 0 ≤ (IntKind.u64.wrap (a2)) then (if 0 ≤ (IntKind.u64.wrap (a1)) then ((quant_Level.f kj6 t138 a1 a2).bind fun bt140 => ((quant_Quant.f bt140.1 a1 a2).bind fun bt142 => (if (wrap64 ((shl .i64 1 (IntKind.u64.wrap (a2))) - 1)) = 0 then (none) else (if t138 ≥ 0 then (if t138 < (wrap64 ((shl .i64 1 (IntKind.u64.wrap (a2))) - 1)) then (if bt140.2 = 0 then (if bt142.2 = 0 then (if (wrap64 ((wrap64 (bt140.1)) - (mn (mx (wrap64 (a0)) (wrap64 (1 - (shl .i64 2 (IntKind.u64.wrap (a1)))))) (wrap64 ((shl .i64 2 (IntKind.u64.wrap (a1))) - 1))))) ≤ (wrap64 ((wrap64 (Int.tdiv (wrap64 (2 * (shl .i64 2 (IntKind.u64.wrap (a1))))) (wrap64 ((shl .i64 1 (IntKind.u64.wrap (a2))) - 1)))) + 1)) then (if (wrap64 ((wrap64 (bt140.1)) - (mn (mx (wrap64 (a0)) (wrap64 (1 - (shl .i64 2 (IntKind.u64.wrap (a1)))))) (wrap64 ((shl .i64 2 (IntKind.u64.wrap (a1))) - 1))))) ≥ (wrap64 (-(wrap64 ((wrap64 (Int.tdiv (wrap64 (2 * (shl .i64 2 (IntKind.u64.wrap (a1))))) (wrap64 ((shl .i64 1 (IntKind.u64.wrap (a2))) - 1)))) + 1)))) then (if (wrap64 ((shl .i64 1 (IntKind.u64.wrap (a2))) - 1)) ≥ (shl .i64 2 (IntKind.u64.wrap (a1))) then (some true) else (some (bt142.1 == t138))) else (some false)) else (some false)) else (some false)) else (some false)) else (some false)) else (some false))))) else (none)) else (none)) = some r := by rw [if_neg (show ¬ (false = true) by decide)] at H; exact H
          clear H
          have H := H1
          clear H1
          obtain ⟨ji10, hji10⟩ : ∃ j_ : Int, (IntKind.u64.wrap (a2)) = j_ := ⟨_, rfl⟩
          replace H : (if 0 ≤ (ji10) then (if 0 ≤ (IntKind.u64.wrap (a1)) then ((quant_Level.f kj6 t138 a1 a2).bind fun bt140 => ((quant_Quant.f bt140.1 a1 a2).bind fun bt142 => (if (wrap64 ((shl .i64 1 (ji10)) - 1)) = 0 then (none) else (if t138 ≥ 0 then (if t138 < (wrap64 ((shl .i64 1 (ji10)) - 1)) then (if bt140.2 = 0 then (if bt142.2 = 0 then (if (wrap64 ((wrap64 (bt140.1)) - (mn (mx (wrap64 (a0)) (wrap64 (1 - (shl .i64 2 (IntKind.u64.wrap (a1)))))) (wrap64 ((shl .i64 2 (IntKind.u64.wrap (a1))) - 1))))) ≤ (wrap64 ((wrap64 (Int.tdiv (wrap64 (2 * (shl .i64 2 (IntKind.u64.wrap (a1))))) (wrap64 ((shl .i64 1 (ji10)) - 1)))) + 1)) then (if (wrap64 ((wrap64 (bt140.1)) - (mn (mx (wrap64 (a0)) (wrap64 (1 - (shl .i64 2 (IntKind.u64.wrap (a1)))))) (wrap64 ((shl .i64 2 (IntKind.u64.wrap (a1))) - 1))))) ≥ (wrap64 (-(wrap64 ((wrap64 (Int.tdiv (wrap64 (2 * (shl .i64 2 (IntKind.u64.wrap (a1))))) (wrap64 ((shl .i64 1 (ji10)) - 1)))) + 1)))) then (if (wrap64 ((shl .i64 1 (ji10)) - 1)) ≥ (shl .i64 2 (IntKind.u64.wrap (a1))) then (some true) else (some (bt142.1 == t138))) else (some false)) else (some false)) else (some false)) else (some false)) else (some false)) else (some false))))) else (none)) else (none)) = some r := by first | (rw [hji10] at H; exact H) | (simp only [hji10] at H ⊢; exact H)
          by_cases c11 : 0 ≤ (ji10)
          · rw [if_pos c11] at H
            have c11b0 := eq_true c11
            have c11b1 : decide (0 ≤ (ji10)) = true := decide_eq_true c11
            clear c11
            obtain ⟨ji12, hji12⟩ : ∃ j_ : Int, (shl .i64 1 (ji10)) = j_ := ⟨_, rfl⟩
            replace H : (if 0 ≤ (IntKind.u64.wrap (a1)) then ((quant_Level.f kj6 t138 a1 a2).bind fun bt140 => ((quant_Quant.f bt140.1 a1 a2).bind fun bt142 => (if (wrap64 ((ji12) - 1)) = 0 then (none) else (if t138 ≥ 0 then (if t138 < (wrap64 ((ji12) - 1)) then (if bt140.2 = 0 then (if bt142.2 = 0 then (if (wrap64 ((wrap64 (bt140.1)) - (mn (mx (wrap64 (a0)) (wrap64 (1 - (shl .i64 2 (IntKind.u64.wrap (a1)))))) (wrap64 ((shl .i64 2 (IntKind.u64.wrap (a1))) - 1))))) ≤ (wrap64 ((wrap64 (Int.tdiv (wrap64 (2 * (shl .i64 2 (IntKind.u64.wrap (a1))))) (wrap64 ((ji12) - 1)))) + 1)) then (if (wrap64 ((wrap64 (bt140.1)) - (mn (mx (wrap64 (a0)) (wrap64 (1 - (shl .i64 2 (IntKind.u64.wrap (a1)))))) (wrap64 ((shl .i64 2 (IntKind.u64.wrap (a1))) - 1))))) ≥ (wrap64 (-(wrap64 ((wrap64 (Int.tdiv (wrap64 (2 * (shl .i64 2 (IntKind.u64.wrap (a1))))) (wrap64 ((ji12) - 1)))) + 1)))) then (if (wrap64 ((ji12) - 1)) ≥ (shl .i64 2 (IntKind.u64.wrap (a1))) then (some true) else (some (bt142.1 == t138))) else (some false)) else (some false)) else (some false)) else (some false)) else (some false)) else (some false))))) else (none)) = some r := by first | (rw [hji12] at H; exact H) | (simp only [hji12] at H ⊢; exact H)
            have hji12_ : (IntKind.i64.wrap (1 * 2 ^ min (ji10).toNat 64)) = ji12 := hji12
            have hji12z : (ji10) ≤ 64 → (IntKind.i64.wrap (1 * 2 ^ (ji10).toNat)) = ji12 := shl_small hji12
            have hji12u : (IntKind.i64.wrap (2 ^ min (ji10).toNat 64)) = ji12 := by have h_ := hji12_; rw [Int.one_mul] at h_; exact h_
            have hji12v : (ji10) ≤ 64 → (IntKind.i64.wrap (2 ^ (ji10).toNat)) = ji12 := fun hle_ => by have h_ := hji12z hle_; rw [Int.one_mul] at h_; exact h_
            have hji12y : (wrap64 (1 * 2 ^ min (ji10).toNat 64)) = ji12 := (i64_w _).symm.trans hji12_
            have hji12x : (ji10) ≤ 64 → (wrap64 (1 * 2 ^ (ji10).toNat)) = ji12 := fun h_ => (i64_w _).symm.trans (hji12z h_)
            obtain ⟨ji13, hji13⟩ : ∃ j_ : Int, (IntKind.u64.wrap (a1)) = j_ := ⟨_, rfl⟩
            replace H : (if 0 ≤ (ji13) then ((quant_Level.f kj6 t138 a1 a2).bind fun bt140 => ((quant_Quant.f bt140.1 a1 a2).bind fun bt142 => (if (wrap64 ((ji12) - 1)) = 0 then (none) else (if t138 ≥ 0 then (if t138 < (wrap64 ((ji12) - 1)) then (if bt140.2 = 0 then (if bt142.2 = 0 then (if (wrap64 ((wrap64 (bt140.1)) - (mn (mx (wrap64 (a0)) (wrap64 (1 - (shl .i64 2 (ji13))))) (wrap64 ((shl .i64 2 (ji13)) - 1))))) ≤ (wrap64 ((wrap64 (Int.tdiv (wrap64 (2 * (shl .i64 2 (ji13)))) (wrap64 ((ji12) - 1)))) + 1)) then (if (wrap64 ((wrap64 (bt140.1)) - (mn (mx (wrap64 (a0)) (wrap64 (1 - (shl .i64 2 (ji13))))) (wrap64 ((shl .i64 2 (ji13)) - 1))))) ≥ (wrap64 (-(wrap64 ((wrap64 (Int.tdiv (wrap64 (2 * (shl .i64 2 (ji13)))) (wrap64 ((ji12) - 1)))) + 1)))) then (if (wrap64 ((ji12) - 1)) ≥ (shl .i64 2 (ji13)) then (some true) else (some (bt142.1 == t138))) else (some false)) else (some false)) else (some false)) else (some false)) else (some false)) else (some false))))) else (none)) = some r := by first | (rw [hji13] at H; exact H) | (simp only [hji13] at H ⊢; exact H)
            by_cases c14 : 0 ≤ (ji13)
            · rw [if_pos c14] at H
              have c14b0 := eq_true c14
              have c14b1 : decide (0 ≤ (ji13)) = true := decide_eq_true c14
              clear c14
              obtain ⟨ji15, hji15⟩ : ∃ j_ : Int, (shl .i64 2 (ji13)) = j_ := ⟨_, rfl⟩
              replace H : ((quant_Level.f kj6 t138 a1 a2).bind fun bt140 => ((quant_Quant.f bt140.1 a1 a2).bind fun bt142 => (if (wrap64 ((ji12) - 1)) = 0 then (none) else (if t138 ≥ 0 then (if t138 < (wrap64 ((ji12) - 1)) then (if bt140.2 = 0 then (if bt142.2 = 0 then (if (wrap64 ((wrap64 (bt140.1)) - (mn (mx (wrap64 (a0)) (wrap64 (1 - (ji15)))) (wrap64 ((ji15) - 1))))) ≤ (wrap64 ((wrap64 (Int.tdiv (wrap64 (2 * (ji15))) (wrap64 ((ji12) - 1)))) + 1)) then (if (wrap64 ((wrap64 (bt140.1)) - (mn (mx (wrap64 (a0)) (wrap64 (1 - (ji15)))) (wrap64 ((ji15) - 1))))) ≥ (wrap64 (-(wrap64 ((wrap64 (Int.tdiv (wrap64 (2 * (ji15))) (wrap64 ((ji12) - 1)))) + 1)))) then (if (wrap64 ((ji12) - 1)) ≥ (ji15) then (some true) else (some (bt142.1 == t138))) else (some false)) else (some false)) else (some false)) else (some false)) else (some false)) else (some false))))) = some r := by first | (rw [hji15] at H; exact H) | (simp only [hji15] at H ⊢; exact H)
              have hji15_ : (IntKind.i64.wrap (2 * 2 ^ min (ji13).toNat 64)) = ji15 := hji15
              have hji15z : (ji13) ≤ 64 → (IntKind.i64.wrap (2 * 2 ^ (ji13).toNat)) = ji15 := shl_small hji15
              have hji15y : (wrap64 (2 * 2 ^ min (ji13).toNat 64)) = ji15 := (i64_w _).symm.trans hji15_
              have hji15x : (ji13) ≤ 64 → (wrap64 (2 * 2 ^ (ji13).toNat)) = ji15 := fun h_ => (i64_w _).symm.trans (hji15z h_)
              replace H := Option.bind_eq_some_iff.mp H
              obtain ⟨⟨t140, t141⟩, A160, H⟩ := H
              replace H : ((quant_Quant.f t140 a1 a2).bind fun bt142 => (if (wrap64 ((ji12) - 1)) = 0 then (none) else (if t138 ≥ 0 then (if t138 < (wrap64 ((ji12) - 1)) then (if t141 = 0 then (if bt142.2 = 0 then (if (wrap64 ((wrap64 (t140)) - (mn (mx (wrap64 (a0)) (wrap64 (1 - (ji15)))) (wrap64 ((ji15) - 1))))) ≤ (wrap64 ((wrap64 (Int.tdiv (wrap64 (2 * (ji15))) (wrap64 ((ji12) - 1)))) + 1)) then (if (wrap64 ((wrap64 (t140)) - (mn (mx (wrap64 (a0)) (wrap64 (1 - (ji15)))) (wrap64 ((ji15) - 1))))) ≥ (wrap64 (-(wrap64 ((wrap64 (Int.tdiv (wrap64 (2 * (ji15))) (wrap64 ((ji12) - 1)))) + 1)))) then (if (wrap64 ((ji12) - 1)) ≥ (ji15) then (some true) else (some (bt142.1 == t138))) else (some false)) else (some false)) else (some false)) else (some false)) else (some false)) else (some false)))) = some r := H
              have A16 := Aside0.mk A160
              clear A160
              replace H := Option.bind_eq_some_iff.mp H
              obtain ⟨⟨t142, t143⟩, A170, H⟩ := H
              replace H : (if (wrap64 ((ji12) - 1)) = 0 then (none) else (if t138 ≥ 0 then (if t138 < (wrap64 ((ji12) - 1)) then (if t141 = 0 then (if t143 = 0 then (if (wrap64 ((wrap64 (t140)) - (mn (mx (wrap64 (a0)) (wrap64 (1 - (ji15)))) (wrap64 ((ji15) - 1))))) ≤ (wrap64 ((wrap64 (Int.tdiv (wrap64 (2 * (ji15))) (wrap64 ((ji12) - 1)))) + 1)) then (if (wrap64 ((wrap64 (t140)) - (mn (mx (wrap64 (a0)) (wrap64 (1 - (ji15)))) (wrap64 ((ji15) - 1))))) ≥ (wrap64 (-(wrap64 ((wrap64 (Int.tdiv (wrap64 (2 * (ji15))) (wrap64 ((ji12) - 1)))) + 1)))) then (if (wrap64 ((ji12) - 1)) ≥ (ji15) then (some true) else (some (t142 == t138))) else (some false)) else (some false)) else (some false)) else (some false)) else (some false)) else (some false))) = some r := H
              have A17 := Aside0.mk A170
              clear A170
              obtain ⟨ji18, hji18⟩ : ∃ j_ : Int, (mx (wrap64 (a0)) (wrap64 (1 - (ji15)))) = j_ := ⟨_, rfl⟩
              replace H : (if (wrap64 ((ji12) - 1)) = 0 then (none) else (if t138 ≥ 0 then (if t138 < (wrap64 ((ji12) - 1)) then (if t141 = 0 then (if t143 = 0 then (if (wrap64 ((wrap64 (t140)) - (mn (ji18) (wrap64 ((ji15) - 1))))) ≤ (wrap64 ((wrap64 (Int.tdiv (wrap64 (2 * (ji15))) (wrap64 ((ji12) - 1)))) + 1)) then (if (wrap64 ((wrap64 (t140)) - (mn (ji18) (wrap64 ((ji15) - 1))))) ≥ (wrap64 (-(wrap64 ((wrap64 (Int.tdiv (wrap64 (2 * (ji15))) (wrap64 ((ji12) - 1)))) + 1)))) then (if (wrap64 ((ji12) - 1)) ≥ (ji15) then (some true) else (some (t142 == t138))) else (some false)) else (some false)) else (some false)) else (some false)) else (some false)) else (some false))) = some r := by first | (rw [hji18] at H; exact H) | (simp only [hji18] at H ⊢; exact H)
              (try rw [hji18] at A16)
              (try rw [hji18] at A17)
              have hji18_ : (if (wrap64 (a0)) < (wrap64 (1 - (ji15))) then (wrap64 (1 - (ji15))) else (wrap64 (a0))) = ji18 := hji18
              obtain ⟨ji19, hji19⟩ : ∃ j_ : Int, (mn (ji18) (wrap64 ((ji15) - 1))) = j_ := ⟨_, rfl⟩
              replace H : (if (wrap64 ((ji12) - 1)) = 0 then (none) else (if t138 ≥ 0 then (if t138 < (wrap64 ((ji12) - 1)) then (if t141 = 0 then (if t143 = 0 then (if (wrap64 ((wrap64 (t140)) - (ji19))) ≤ (wrap64 ((wrap64 (Int.tdiv (wrap64 (2 * (ji15))) (wrap64 ((ji12) - 1)))) + 1)) then (if (wrap64 ((wrap64 (t140)) - (ji19))) ≥ (wrap64 (-(wrap64 ((wrap64 (Int.tdiv (wrap64 (2 * (ji15))) (wrap64 ((ji12) - 1)))) + 1)))) then (if (wrap64 ((ji12) - 1)) ≥ (ji15) then (some true) else (some (t142 == t138))) else (some false)) else (some false)) else (some false)) else (some false)) else (some false)) else (some false))) = some r := by first | (rw [hji19] at H; exact H) | (simp only [hji19] at H ⊢; exact H)
              (try rw [hji19] at A16)
              (try rw [hji19] at A17)
              have hji19_ : (if (wrap64 ((ji15) - 1)) < (ji18) then (wrap64 ((ji15) - 1)) else (ji18)) = ji19 := hji19
              by_cases c20 : (wrap64 ((ji12) - 1)) = 0
              · rw [if_pos c20] at H
                exact absurd H (by simp)
              · rw [if_neg c20] at H
                have c20b0 : ((wrap64 ((ji12) - 1)) == 0) = false := beq_eq_false_iff_ne.mpr c20
                have c20b1 : ((wrap64 ((ji12) - 1)) != 0) = true := bne_iff_ne.mpr c20
                by_cases c21 : t138 ≥ 0
                · rw [if_pos c21] at H
                  have c21b0 : decide (0 ≤ t138) = true := decide_eq_true c21
                  clear c21
                  by_cases c22 : t138 < (wrap64 ((ji12) - 1))
                  · rw [if_pos c22] at H
                    have c22b0 : decide (t138 < (wrap64 ((ji12) - 1))) = true := decide_eq_true c22
                    clear c22
                    by_cases c23 : t141 = 0
                    · rw [if_pos c23] at H
                      have c23b0 : (t141 == 0) = true := beq_iff_eq.mpr c23
                      have c23b1 : (t141 != 0) = false := bne_eq_false_iff_eq.mpr c23
                      clear c23
                      by_cases c24 : t143 = 0
                      · rw [if_pos c24] at H
                        have c24b0 : (t143 == 0) = true := beq_iff_eq.mpr c24
                        have c24b1 : (t143 != 0) = false := bne_eq_false_iff_eq.mpr c24
                        clear c24
                        by_cases c25 : (wrap64 ((wrap64 (t140)) - (ji19))) ≤ (wrap64 ((wrap64 (Int.tdiv (wrap64 (2 * (ji15))) (wrap64 ((ji12) - 1)))) + 1))
                        · rw [if_pos c25] at H
                          have c25b0 : decide ((wrap64 ((wrap64 (t140)) - (ji19))) ≤ (wrap64 ((wrap64 (Int.tdiv (wrap64 (2 * (ji15))) (wrap64 ((ji12) - 1)))) + 1))) = true := decide_eq_true c25
                          clear c25
                          by_cases c26 : (wrap64 ((wrap64 (t140)) - (ji19))) ≥ (wrap64 (-(wrap64 ((wrap64 (Int.tdiv (wrap64 (2 * (ji15))) (wrap64 ((ji12) - 1)))) + 1))))
                          · rw [if_pos c26] at H
                            have c26b0 : decide ((wrap64 (-(wrap64 ((wrap64 (Int.tdiv (wrap64 (2 * (ji15))) (wrap64 ((ji12) - 1)))) + 1)))) ≤ (wrap64 ((wrap64 (t140)) - (ji19)))) = true := decide_eq_true c26
                            clear c26
                            by_cases c27 : (wrap64 ((ji12) - 1)) ≥ (ji15)
                            · rw [if_pos c27] at H
                              have c27b0 : decide ((ji15) ≤ (wrap64 ((ji12) - 1))) = true := decide_eq_true c27
                              clear c27
                              obtain rfl := Option.some.inj H
                              go_wp2_with (first | ((with_reducible refine gate_callee (f := 35) rfl ?_); refine goesL_ (some 46) rfl rfl Try.func35 (by kernel_rfl) rfl #[.int .i64 t138, .int .i64 a1, .int .i64 a2] rfl (by (try simp only [List.map_toArray, List.map_cons, List.map_nil]); first | done | rfl | (simp only [List.length_drop, List.length_take]; rfl)) ?_; (with_reducible refine (quant_Level.calls kj6 t138 a1 a2 t140 t141 _ A16.out).mono ?_); rintro e w' ⟨rfl, ⟨nd, rfl⟩⟩; refine ⟨_, rfl, ?_⟩) | ((with_reducible refine gate_callee (f := 33) rfl ?_); refine goesL_ (some 53) rfl rfl Try.func33 (by kernel_rfl) rfl #[.int .i32 t140, .int .i64 a1, .int .i64 a2] rfl (by (try simp only [List.map_toArray, List.map_cons, List.map_nil]); first | done | rfl | (simp only [List.length_drop, List.length_take]; rfl)) ?_; (with_reducible refine (quant_Quant.calls t140 a1 a2 t142 t143 _ A17.out).mono ?_); rintro e w' ⟨rfl, ⟨nd, rfl⟩⟩; refine ⟨_, rfl, ?_⟩))
                              go_ret
                              exact ⟨by first | rfl | (simp [errW_none, errW_some] <;> rfl) | (simp only [← hji10, ← hji12, ← hji13, ← hji15, ← hji18, ← hji19]; first | rfl | (simp [errW_none, errW_some] <;> rfl)) | (simp [*, errW_none, errW_some] <;> rfl), by repeat (first | (with_reducible first | exact HB.out | apply below_alloc | apply pw_below_drewN | apply below_drew1) | exact HB.out)⟩
                            · rw [if_neg c27] at H
                              have c27b0 : decide ((ji15) ≤ (wrap64 ((ji12) - 1))) = false := decide_eq_false c27
                              clear c27
                              obtain rfl := Option.some.inj H
                              go_wp2_with (first | ((with_reducible refine gate_callee (f := 35) rfl ?_); refine goesL_ (some 46) rfl rfl Try.func35 (by kernel_rfl) rfl #[.int .i64 t138, .int .i64 a1, .int .i64 a2] rfl (by (try simp only [List.map_toArray, List.map_cons, List.map_nil]); first | done | rfl | (simp only [List.length_drop, List.length_take]; rfl)) ?_; (with_reducible refine (quant_Level.calls kj6 t138 a1 a2 t140 t141 _ A16.out).mono ?_); rintro e w' ⟨rfl, ⟨nd, rfl⟩⟩; refine ⟨_, rfl, ?_⟩) | ((with_reducible refine gate_callee (f := 33) rfl ?_); refine goesL_ (some 53) rfl rfl Try.func33 (by kernel_rfl) rfl #[.int .i32 t140, .int .i64 a1, .int .i64 a2] rfl (by (try simp only [List.map_toArray, List.map_cons, List.map_nil]); first | done | rfl | (simp only [List.length_drop, List.length_take]; rfl)) ?_; (with_reducible refine (quant_Quant.calls t140 a1 a2 t142 t143 _ A17.out).mono ?_); rintro e w' ⟨rfl, ⟨nd, rfl⟩⟩; refine ⟨_, rfl, ?_⟩))
                              go_ret
                              exact ⟨by first | rfl | (simp [errW_none, errW_some] <;> rfl) | (simp only [← hji10, ← hji12, ← hji13, ← hji15, ← hji18, ← hji19]; first | rfl | (simp [errW_none, errW_some] <;> rfl)) | (simp [*, errW_none, errW_some] <;> rfl), by repeat (first | (with_reducible first | exact HB.out | apply below_alloc | apply pw_below_drewN | apply below_drew1) | exact HB.out)⟩
                          · rw [if_neg c26] at H
                            have c26b0 : decide ((wrap64 (-(wrap64 ((wrap64 (Int.tdiv (wrap64 (2 * (ji15))) (wrap64 ((ji12) - 1)))) + 1)))) ≤ (wrap64 ((wrap64 (t140)) - (ji19)))) = false := decide_eq_false c26
                            clear c26
                            obtain rfl := Option.some.inj H
                            go_wp2_with (first | ((with_reducible refine gate_callee (f := 35) rfl ?_); refine goesL_ (some 46) rfl rfl Try.func35 (by kernel_rfl) rfl #[.int .i64 t138, .int .i64 a1, .int .i64 a2] rfl (by (try simp only [List.map_toArray, List.map_cons, List.map_nil]); first | done | rfl | (simp only [List.length_drop, List.length_take]; rfl)) ?_; (with_reducible refine (quant_Level.calls kj6 t138 a1 a2 t140 t141 _ A16.out).mono ?_); rintro e w' ⟨rfl, ⟨nd, rfl⟩⟩; refine ⟨_, rfl, ?_⟩) | ((with_reducible refine gate_callee (f := 33) rfl ?_); refine goesL_ (some 53) rfl rfl Try.func33 (by kernel_rfl) rfl #[.int .i32 t140, .int .i64 a1, .int .i64 a2] rfl (by (try simp only [List.map_toArray, List.map_cons, List.map_nil]); first | done | rfl | (simp only [List.length_drop, List.length_take]; rfl)) ?_; (with_reducible refine (quant_Quant.calls t140 a1 a2 t142 t143 _ A17.out).mono ?_); rintro e w' ⟨rfl, ⟨nd, rfl⟩⟩; refine ⟨_, rfl, ?_⟩))
                            go_ret
                            exact ⟨by first | rfl | (simp [errW_none, errW_some] <;> rfl) | (simp only [← hji10, ← hji12, ← hji13, ← hji15, ← hji18, ← hji19]; first | rfl | (simp [errW_none, errW_some] <;> rfl)) | (simp [*, errW_none, errW_some] <;> rfl), by repeat (first | (with_reducible first | exact HB.out | apply below_alloc | apply pw_below_drewN | apply below_drew1) | exact HB.out)⟩
                        · rw [if_neg c25] at H
                          have c25b0 : decide ((wrap64 ((wrap64 (t140)) - (ji19))) ≤ (wrap64 ((wrap64 (Int.tdiv (wrap64 (2 * (ji15))) (wrap64 ((ji12) - 1)))) + 1))) = false := decide_eq_false c25
                          clear c25
                          obtain rfl := Option.some.inj H
                          go_wp2_with (first | ((with_reducible refine gate_callee (f := 35) rfl ?_); refine goesL_ (some 46) rfl rfl Try.func35 (by kernel_rfl) rfl #[.int .i64 t138, .int .i64 a1, .int .i64 a2] rfl (by (try simp only [List.map_toArray, List.map_cons, List.map_nil]); first | done | rfl | (simp only [List.length_drop, List.length_take]; rfl)) ?_; (with_reducible refine (quant_Level.calls kj6 t138 a1 a2 t140 t141 _ A16.out).mono ?_); rintro e w' ⟨rfl, ⟨nd, rfl⟩⟩; refine ⟨_, rfl, ?_⟩) | ((with_reducible refine gate_callee (f := 33) rfl ?_); refine goesL_ (some 53) rfl rfl Try.func33 (by kernel_rfl) rfl #[.int .i32 t140, .int .i64 a1, .int .i64 a2] rfl (by (try simp only [List.map_toArray, List.map_cons, List.map_nil]); first | done | rfl | (simp only [List.length_drop, List.length_take]; rfl)) ?_; (with_reducible refine (quant_Quant.calls t140 a1 a2 t142 t143 _ A17.out).mono ?_); rintro e w' ⟨rfl, ⟨nd, rfl⟩⟩; refine ⟨_, rfl, ?_⟩))
                          go_ret
                          exact ⟨by first | rfl | (simp [errW_none, errW_some] <;> rfl) | (simp only [← hji10, ← hji12, ← hji13, ← hji15, ← hji18, ← hji19]; first | rfl | (simp [errW_none, errW_some] <;> rfl)) | (simp [*, errW_none, errW_some] <;> rfl), by repeat (first | (with_reducible first | exact HB.out | apply below_alloc | apply pw_below_drewN | apply below_drew1) | exact HB.out)⟩
                      · rw [if_neg c24] at H
                        have c24b0 : (t143 == 0) = false := beq_eq_false_iff_ne.mpr c24
                        have c24b1 : (t143 != 0) = true := bne_iff_ne.mpr c24
                        obtain rfl := Option.some.inj H
                        go_wp2_with (first | ((with_reducible refine gate_callee (f := 35) rfl ?_); refine goesL_ (some 46) rfl rfl Try.func35 (by kernel_rfl) rfl #[.int .i64 t138, .int .i64 a1, .int .i64 a2] rfl (by (try simp only [List.map_toArray, List.map_cons, List.map_nil]); first | done | rfl | (simp only [List.length_drop, List.length_take]; rfl)) ?_; (with_reducible refine (quant_Level.calls kj6 t138 a1 a2 t140 t141 _ A16.out).mono ?_); rintro e w' ⟨rfl, ⟨nd, rfl⟩⟩; refine ⟨_, rfl, ?_⟩) | ((with_reducible refine gate_callee (f := 33) rfl ?_); refine goesL_ (some 53) rfl rfl Try.func33 (by kernel_rfl) rfl #[.int .i32 t140, .int .i64 a1, .int .i64 a2] rfl (by (try simp only [List.map_toArray, List.map_cons, List.map_nil]); first | done | rfl | (simp only [List.length_drop, List.length_take]; rfl)) ?_; (with_reducible refine (quant_Quant.calls t140 a1 a2 t142 t143 _ A17.out).mono ?_); rintro e w' ⟨rfl, ⟨nd, rfl⟩⟩; refine ⟨_, rfl, ?_⟩))
                        go_ret
                        exact ⟨by first | rfl | (simp [errW_none, errW_some] <;> rfl) | (simp only [← hji10, ← hji12, ← hji13, ← hji15, ← hji18, ← hji19]; first | rfl | (simp [errW_none, errW_some] <;> rfl)) | (simp [*, errW_none, errW_some] <;> rfl), by repeat (first | (with_reducible first | exact HB.out | apply below_alloc | apply pw_below_drewN | apply below_drew1) | exact HB.out)⟩
                    · rw [if_neg c23] at H
                      have c23b0 : (t141 == 0) = false := beq_eq_false_iff_ne.mpr c23
                      have c23b1 : (t141 != 0) = true := bne_iff_ne.mpr c23
                      obtain rfl := Option.some.inj H
                      go_wp2_with (first | ((with_reducible refine gate_callee (f := 35) rfl ?_); refine goesL_ (some 46) rfl rfl Try.func35 (by kernel_rfl) rfl #[.int .i64 t138, .int .i64 a1, .int .i64 a2] rfl (by (try simp only [List.map_toArray, List.map_cons, List.map_nil]); first | done | rfl | (simp only [List.length_drop, List.length_take]; rfl)) ?_; (with_reducible refine (quant_Level.calls kj6 t138 a1 a2 t140 t141 _ A16.out).mono ?_); rintro e w' ⟨rfl, ⟨nd, rfl⟩⟩; refine ⟨_, rfl, ?_⟩) | ((with_reducible refine gate_callee (f := 33) rfl ?_); refine goesL_ (some 53) rfl rfl Try.func33 (by kernel_rfl) rfl #[.int .i32 t140, .int .i64 a1, .int .i64 a2] rfl (by (try simp only [List.map_toArray, List.map_cons, List.map_nil]); first | done | rfl | (simp only [List.length_drop, List.length_take]; rfl)) ?_; (with_reducible refine (quant_Quant.calls t140 a1 a2 t142 t143 _ A17.out).mono ?_); rintro e w' ⟨rfl, ⟨nd, rfl⟩⟩; refine ⟨_, rfl, ?_⟩))
                      go_ret
                      exact ⟨by first | rfl | (simp [errW_none, errW_some] <;> rfl) | (simp only [← hji10, ← hji12, ← hji13, ← hji15, ← hji18, ← hji19]; first | rfl | (simp [errW_none, errW_some] <;> rfl)) | (simp [*, errW_none, errW_some] <;> rfl), by repeat (first | (with_reducible first | exact HB.out | apply below_alloc | apply pw_below_drewN | apply below_drew1) | exact HB.out)⟩
                  · rw [if_neg c22] at H
                    have c22b0 : decide (t138 < (wrap64 ((ji12) - 1))) = false := decide_eq_false c22
                    clear c22
                    obtain rfl := Option.some.inj H
                    go_wp2_with (first | ((with_reducible refine gate_callee (f := 35) rfl ?_); refine goesL_ (some 46) rfl rfl Try.func35 (by kernel_rfl) rfl #[.int .i64 t138, .int .i64 a1, .int .i64 a2] rfl (by (try simp only [List.map_toArray, List.map_cons, List.map_nil]); first | done | rfl | (simp only [List.length_drop, List.length_take]; rfl)) ?_; (with_reducible refine (quant_Level.calls kj6 t138 a1 a2 t140 t141 _ A16.out).mono ?_); rintro e w' ⟨rfl, ⟨nd, rfl⟩⟩; refine ⟨_, rfl, ?_⟩) | ((with_reducible refine gate_callee (f := 33) rfl ?_); refine goesL_ (some 53) rfl rfl Try.func33 (by kernel_rfl) rfl #[.int .i32 t140, .int .i64 a1, .int .i64 a2] rfl (by (try simp only [List.map_toArray, List.map_cons, List.map_nil]); first | done | rfl | (simp only [List.length_drop, List.length_take]; rfl)) ?_; (with_reducible refine (quant_Quant.calls t140 a1 a2 t142 t143 _ A17.out).mono ?_); rintro e w' ⟨rfl, ⟨nd, rfl⟩⟩; refine ⟨_, rfl, ?_⟩))
                    go_ret
                    exact ⟨by first | rfl | (simp [errW_none, errW_some] <;> rfl) | (simp only [← hji10, ← hji12, ← hji13, ← hji15, ← hji18, ← hji19]; first | rfl | (simp [errW_none, errW_some] <;> rfl)) | (simp [*, errW_none, errW_some] <;> rfl), by repeat (first | (with_reducible first | exact HB.out | apply below_alloc | apply pw_below_drewN | apply below_drew1) | exact HB.out)⟩
                · rw [if_neg c21] at H
                  have c21b0 : decide (0 ≤ t138) = false := decide_eq_false c21
                  clear c21
                  obtain rfl := Option.some.inj H
                  go_wp2_with (first | ((with_reducible refine gate_callee (f := 35) rfl ?_); refine goesL_ (some 46) rfl rfl Try.func35 (by kernel_rfl) rfl #[.int .i64 t138, .int .i64 a1, .int .i64 a2] rfl (by (try simp only [List.map_toArray, List.map_cons, List.map_nil]); first | done | rfl | (simp only [List.length_drop, List.length_take]; rfl)) ?_; (with_reducible refine (quant_Level.calls kj6 t138 a1 a2 t140 t141 _ A16.out).mono ?_); rintro e w' ⟨rfl, ⟨nd, rfl⟩⟩; refine ⟨_, rfl, ?_⟩) | ((with_reducible refine gate_callee (f := 33) rfl ?_); refine goesL_ (some 53) rfl rfl Try.func33 (by kernel_rfl) rfl #[.int .i32 t140, .int .i64 a1, .int .i64 a2] rfl (by (try simp only [List.map_toArray, List.map_cons, List.map_nil]); first | done | rfl | (simp only [List.length_drop, List.length_take]; rfl)) ?_; (with_reducible refine (quant_Quant.calls t140 a1 a2 t142 t143 _ A17.out).mono ?_); rintro e w' ⟨rfl, ⟨nd, rfl⟩⟩; refine ⟨_, rfl, ?_⟩))
                  go_ret
                  exact ⟨by first | rfl | (simp [errW_none, errW_some] <;> rfl) | (simp only [← hji10, ← hji12, ← hji13, ← hji15, ← hji18, ← hji19]; first | rfl | (simp [errW_none, errW_some] <;> rfl)) | (simp [*, errW_none, errW_some] <;> rfl), by repeat (first | (with_reducible first | exact HB.out | apply below_alloc | apply pw_below_drewN | apply below_drew1) | exact HB.out)⟩
            · rw [if_neg c14] at H
              exact absurd H (by simp)
          · rw [if_neg c11] at H
            exact absurd H (by simp)
  · replace c5 := Bool.eq_false_iff.mpr c5
    subst c5
    have H1 : (some false) = some r := by rw [if_neg (show ¬ (false = true) by decide)] at H; exact H
    clear H
    have H := H1
    clear H1
    obtain rfl := Option.some.inj H
    go_enter Try.func8, Try.ntmps8
    go_wp2_with (first | ((with_reducible refine gate_callee (f := 32) rfl ?_); refine goesL_ (some 18) rfl rfl Try.func32 (by kernel_rfl) rfl #[] rfl (by (try simp only [List.map_toArray, List.map_cons, List.map_nil]); first | done | rfl | (simp only [List.length_drop, List.length_take]; rfl)) ?_; (with_reducible refine (psalterylaw13_alive.calls k  false _ A4.out).mono ?_); rintro e w' ⟨rfl, ⟨nd, rfl⟩⟩; refine ⟨_, rfl, ?_⟩))
    go_ret
    exact ⟨by first | rfl | (simp [errW_none, errW_some] <;> rfl) | (simp [*, errW_none, errW_some] <;> rfl), by repeat (first | (with_reducible first | exact HB.out | apply below_alloc | apply pw_below_drewN | apply below_drew1) | exact HB.out)⟩

/-- THE ONE PURE STATEMENT of psalterylaw13_QuantNear: yours. -/
def psalterylaw13_QuantNear.Pure : Prop := ∀ (a0 : Int) (a1 : Int) (a2 : Int), (Lit.int .i32 a0).wf = true → (Lit.int .i64 a1).wf = true → (Lit.int .i64 a2).wf = true → ∃ k, psalterylaw13_QuantNear.f k a0 a1 a2 = some true
theorem psalterylaw13_QuantNear.walk (P : psalterylaw13_QuantNear.Pure) (a0 : Int) (a1 : Int) (a2 : Int) (w : World) (w0 : (Lit.int .i32 a0).wf = true) (w1 : (Lit.int .i64 a1).wf = true) (w2 : (Lit.int .i64 a2).wf = true) :
    Calls Try.prog 8 #[.int .i32 a0, .int .i64 a1, .int .i64 a2] w fun e w' => e = .returned (.bool true) ∧ Below w.heap.size w w' := by
  obtain ⟨k, h⟩ := P a0 a1 a2 w0 w1 w2
  refine (psalterylaw13_QuantNear.calls k a0 a1 a2 true w h).mono ?_
  rintro e w' ⟨rfl, hd⟩
  exact ⟨rfl, hd⟩

end Go.Proofs.Ytnaeondfkkiimaa.PQuant
