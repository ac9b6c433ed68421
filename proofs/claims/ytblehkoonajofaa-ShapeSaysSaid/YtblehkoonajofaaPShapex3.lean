/- Contracts of the functions that the law Shape reaches: each Go function as a Lean function, and that the Go text comes to it. Written by programs (wip/tools), out of the program's own loaded form. -/
import Derived.Test.YtblehkoonajofaaPShapex0
import Derived.Test.YtblehkoonajofaaPShapex1
import Derived.Test.YtblehkoonajofaaPShapex2
namespace Go.Proofs.Ytblehkoonajofaa.PShape
open Go.RowKit Go.Proofs.YtblehkoonajofaaW.PrintWords Go.Proofs.YtblehkoonajofaaW.PrintLast Go.Proofs.YtblehkoonajofaaW.PrintMore
attribute [local go_sem] max2_int min2_int max_two min_two max_three min_three max_four min_four   -- for this text's walks alone
set_option linter.unusedVariables false
set_option linter.unusedSimpArgs false

/-! ### logs_Exp: function 99 -/
mutual
def logs_Exp.j0 : Nat → Int → Bool → Option (Int × Int)
  | 0, _, _ => none
  | k + 1, x0, x13 => if x13 = true then (some (0, 1)) else (logs_Exp.l0 k x0 1073741824 0)
def logs_Exp.l0 : Nat → Int → Int → Int → Option (Int × Int)
  | 0, _, _, _ => none
  | k + 1, x0, x4, x15 => if x15 < 8 then ((arr_logs_Exp_14.f x15).bind fun t200 => (if 0 ≤ (wrap64 (7 - x15)) then (if (Go.bits .and .i32 (shr .i32 x0 (wrap64 (7 - x15))) 1) = 1 then (logs_Exp.l0 k x0 ((IntKind.u64.wrap (x4 * t200)) / 1073741824) (wrap64 (x15 + 1))) else (logs_Exp.l0 k x0 x4 (wrap64 (x15 + 1)))) else (none))) else (if (wrap64 ((wrap64 (x0 / 256)) - 14)) ≥ 0 then (if 0 ≤ (wrap64 ((wrap64 (x0 / 256)) - 14)) then (some (shl .u64 x4 (wrap64 ((wrap64 (x0 / 256)) - 14)), 0)) else (none)) else ((fix_Round.f (wrap64 (x4)) (wrap64 (-(wrap64 ((wrap64 (x0 / 256)) - 14))))).bind fun t201 => (some (IntKind.u64.wrap (t201), 0))))
end
def logs_Exp.f (k : Nat) (a0 : Int) : Option (Int × Int) := if a0 < (-4096) then (logs_Exp.j0 k a0 true) else (logs_Exp.j0 k a0 (decide (a0 > 7680)))
theorem logs_Exp.mono_l : ∀ k, (∀ y0 y1, LeO (logs_Exp.j0 k y0 y1) (logs_Exp.j0 (k + 1) y0 y1)) ∧ (∀ y0 y1 y2, LeO (logs_Exp.l0 k y0 y1 y2) (logs_Exp.l0 (k + 1) y0 y1 y2))
  | 0 => ⟨fun _ _ r h => by simp [logs_Exp.j0] at h, fun _ _ _ r h => by simp [logs_Exp.l0] at h⟩
  | k + 1 => by
    obtain ⟨ih0, ih1⟩ := logs_Exp.mono_l k
    refine ⟨?_, ?_⟩
    · intro y0 y1
      unfold logs_Exp.j0
      repeat' first
      | (with_reducible exact ih0 _ _)
      | (with_reducible exact ih1 _ _ _)
      | (with_reducible exact LeO.refl _)
      | (with_reducible exact LeO.none _)
      | (with_reducible refine LeO.ite ?_ ?_)
      | (with_reducible refine LeO.bind ?_ (fun _ => ?_))
      | exact ih0 _ _
      | exact ih1 _ _ _
      | exact LeO.none _
      | refine LeO.ite ?_ ?_
      | refine LeO.bind ?_ (fun _ => ?_)
    · intro y0 y1 y2
      unfold logs_Exp.l0
      repeat' first
      | (with_reducible exact ih0 _ _)
      | (with_reducible exact ih1 _ _ _)
      | (with_reducible exact LeO.refl _)
      | (with_reducible exact LeO.none _)
      | (with_reducible refine LeO.ite ?_ ?_)
      | (with_reducible refine LeO.bind ?_ (fun _ => ?_))
      | exact ih0 _ _
      | exact ih1 _ _ _
      | exact LeO.none _
      | refine LeO.ite ?_ ?_
      | refine LeO.bind ?_ (fun _ => ?_)
theorem logs_Exp.mono : ∀ a0 k, LeO (logs_Exp.f k a0) (logs_Exp.f (k + 1) a0) := by
  intro a0 k
  obtain ⟨ih0, ih1⟩ := logs_Exp.mono_l k
  unfold logs_Exp.f
  repeat' first
      | (with_reducible exact ih0 _ _)
      | (with_reducible exact ih1 _ _ _)
      | (with_reducible exact LeO.refl _)
      | (with_reducible exact LeO.none _)
      | (with_reducible refine LeO.ite ?_ ?_)
      | (with_reducible refine LeO.bind ?_ (fun _ => ?_))
      | exact ih0 _ _
      | exact ih1 _ _ _
      | exact LeO.none _
      | refine LeO.ite ?_ ?_
      | refine LeO.bind ?_ (fun _ => ?_)
set_option maxHeartbeats 8000000 in
set_option maxRecDepth 100000 in
theorem logs_Exp.calls (k : Nat) (a0 : Int) (r1 : Int) (r2 : Int) (w : World) (h : logs_Exp.f k a0 = some (r1, r2)) :
    Calls Try.prog 99 #[.int .i32 a0] w fun e w' => e = .returned (.tuple #[.int .u64 r1, .int .i64 r2]) ∧ Drawn0 w w' := by
  have H : (if a0 < (-4096) then (logs_Exp.j0 k a0 true) else (logs_Exp.j0 k a0 (decide (a0 > 7680)))) = some (r1, r2) := h
  clear h
  have HC2 := Aside0.mk H
  clear H
  go_enter Try.func99, Try.ntmps99
  go_upto_region 1 with (fail)
  go_cut [13] (fun v13 wc => ∃ (kq : Nat) (x13_1 : Bool), v13 = .bool x13_1 ∧ Aside0 (logs_Exp.j0 kq a0 x13_1 = some (r1, r2)) ∧ Aside0 (kq ≤ k) ∧ Drawn0 w wc)
  case first =>
    have H := HC2.out
    clear HC2
    by_cases c3 : a0 < (-4096)
    · rw [if_pos c3] at H
      have c3b0 : decide (a0 < (-4096)) = true := decide_eq_true c3
      clear c3
      (first | rw [c3b0] | (simp only [i64_w, i32_w]; rw [c3b0]) | skip)
      have H' := Aside0.mk H
      clear H
      go_wp2
      go_meet
      case rel => exact ⟨_, (true), (by first | rfl | (simp; done) | (simp [*]; done)), H', ⟨by first | omega | exact Nat.le_refl _⟩, by repeat (first | exact Drawn0.refl _ | apply Drawn0.step)⟩
    · rw [if_neg c3] at H
      have c3b0 : decide (a0 < (-4096)) = false := decide_eq_false c3
      clear c3
      (first | rw [c3b0] | (simp only [i64_w, i32_w]; rw [c3b0]) | skip)
      have H' := Aside0.mk H
      clear H
      go_wp2
      go_meet
      case rel => exact ⟨_, (decide (a0 > 7680)), (by first | rfl | (simp; done) | (simp [*]; done)), H', ⟨by first | omega | exact Nat.le_refl _⟩, by repeat (first | exact Drawn0.refl _ | apply Drawn0.step)⟩
  case rest =>
    clear HC2
    try clear p2
    try clear c3
    try clear c3b0
    obtain ⟨kq, x13_1, rfl, HA, HJ1, ⟨mc1, rfl⟩⟩ := hcut
    cases kq with
    | zero => exact absurd HA.out (by simp [logs_Exp.j0])
    | succ kj1 =>
      have H := HA.out
      clear HA
      simp only [logs_Exp.j0] at H
      by_cases c4 : x13_1 = true
      · subst c4
        have H1 : (some (0, 1)) = some (r1, r2) := by rw [if_pos rfl] at H; exact H
        clear H
        have H := H1
        clear H1
        simp only [Option.some.injEq, Prod.mk.injEq] at H
        obtain ⟨rfl, rfl⟩ := H
        go_wp2
        go_ret2
        exact ⟨by first | rfl | (simp; done) | (simp [*]; done), by repeat (first | exact Drawn0.refl _ | apply Drawn0.step)⟩
      · replace c4 := Bool.eq_false_iff.mpr c4
        subst c4
        have H1 : (logs_Exp.l0 kj1 a0 1073741824 0) = some (r1, r2) := by rw [if_neg (show ¬ (false = true) by decide)] at H; exact H
        clear H
        have H := H1
        clear H1
        have H' := Aside0.mk H
        clear H
        go_wp2
        go_loopg [4, 15] kj1 (fun kq v4 v15 w' => ∃ (x4_2 : Int) (x15_2 : Int), v4 = .int .u64 x4_2 ∧ v15 = .int .i64 x15_2 ∧ Aside0 (logs_Exp.l0 kq a0 x4_2 x15_2 = some (r1, r2)) ∧ Aside0 (kq ≤ kj1) ∧ Drawn0 w w')
        case atStart => exact ⟨(1073741824), (0), (by first | rfl | (simp; done) | (simp [*]; done)), (by first | rfl | (simp; done) | (simp [*]; done)), H', ⟨Nat.le_refl _⟩, by repeat (first | exact Drawn0.refl _ | apply Drawn0.step)⟩
        case round =>
          clear H'
          try clear c1
          try clear p2
          try clear c3
          try clear c3b0
          try clear c4
          try clear p2
          obtain ⟨x4_2, x15_2, rfl, rfl, HA, HK2, ⟨m2, rfl⟩⟩ := hrel
          cases gk with
          | zero => exact absurd HA.out (by simp [logs_Exp.l0])
          | succ k2 =>
            have H := HA.out
            clear HA
            simp only [logs_Exp.l0] at H
            by_cases c5 : x15_2 < 8
            · rw [if_pos c5] at H
              have c5b0 : decide (x15_2 < 8) = true := decide_eq_true c5
              clear c5
              replace H := Option.bind_eq_some_iff.mp H
              obtain ⟨t200, A60, H⟩ := H
              replace H : (if 0 ≤ (wrap64 (7 - x15_2)) then (if (Go.bits .and .i32 (shr .i32 a0 (wrap64 (7 - x15_2))) 1) = 1 then (logs_Exp.l0 k2 a0 ((IntKind.u64.wrap (x4_2 * t200)) / 1073741824) (wrap64 (x15_2 + 1))) else (logs_Exp.l0 k2 a0 x4_2 (wrap64 (x15_2 + 1)))) else (none)) = some (r1, r2) := H
              have A6 := Aside0.mk A60
              have IA6 := fun w_ => arr_logs_Exp_14.run A60 w_
              clear A60
              obtain ⟨ji7, hji7⟩ : ∃ j_ : Int, (wrap64 (7 - x15_2)) = j_ := ⟨_, rfl⟩
              replace H : (if 0 ≤ (ji7) then (if (Go.bits .and .i32 (shr .i32 a0 (ji7)) 1) = 1 then (logs_Exp.l0 k2 a0 ((IntKind.u64.wrap (x4_2 * t200)) / 1073741824) (wrap64 (x15_2 + 1))) else (logs_Exp.l0 k2 a0 x4_2 (wrap64 (x15_2 + 1)))) else (none)) = some (r1, r2) := by first | (rw [hji7] at H; exact H) | (simp only [hji7] at H ⊢; exact H)
              (try rw [hji7] at A6)
              have hji7w : (IntKind.i64.wrap (7 - x15_2)) = ji7 := (i64_w _).trans hji7
              by_cases c8 : 0 ≤ (ji7)
              · rw [if_pos c8] at H
                have c8b0 := eq_true c8
                have c8b1 : decide (0 ≤ (ji7)) = true := decide_eq_true c8
                clear c8
                obtain ⟨ji9, hji9⟩ : ∃ j_ : Int, (shr .i32 a0 (ji7)) = j_ := ⟨_, rfl⟩
                replace H : (if (Go.bits .and .i32 (ji9) 1) = 1 then (logs_Exp.l0 k2 a0 ((IntKind.u64.wrap (x4_2 * t200)) / 1073741824) (wrap64 (x15_2 + 1))) else (logs_Exp.l0 k2 a0 x4_2 (wrap64 (x15_2 + 1)))) = some (r1, r2) := by first | (rw [hji9] at H; exact H) | (simp only [hji9] at H ⊢; exact H)
                (try rw [hji9] at A6)
                have hji9_ : (a0 / 2 ^ min (ji7).toNat 32) = ji9 := hji9
                have hji9z : (ji7) ≤ 32 → (a0 / 2 ^ (ji7).toNat) = ji9 := shr_small hji9
                by_cases c10 : (Go.bits .and .i32 (ji9) 1) = 1
                · rw [if_pos c10] at H
                  have c10b0 : ((Go.bits .and .i32 (ji9) 1) == 1) = true := beq_iff_eq.mpr c10
                  have c10b1 : ((Go.bits .and .i32 (ji9) 1) != 1) = false := bne_eq_false_iff_eq.mpr c10
                  clear c10
                  have H' := Aside0.mk H
                  clear H
                  go_wp2_with (first | ((with_reducible refine gate_callee (f := 129) rfl ?_); refine goesL_ (some 18) rfl rfl Try.func0 (by kernel_rfl) rfl #[.int .i64 x15_2] rfl (by (try simp only [List.map_toArray, List.map_cons, List.map_nil]); first | done | rfl | (simp only [List.length_drop, List.length_take]; rfl)) ?_; (with_reducible refine (arr_logs_Exp_14.calls x15_2 t200 _ A6.out).mono ?_); rintro e w' ⟨rfl, ⟨nd, rfl⟩⟩; refine ⟨_, rfl, ?_⟩))
                  go_roundg k2
                  case measure => have := HJ1.out; have := HK2.out; omega
                  case rel => exact ⟨((IntKind.u64.wrap (x4_2 * t200)) / 1073741824), (wrap64 (x15_2 + 1)), (by first | rfl | (simp; done) | (simp [*]; done)), (by first | rfl | (simp; done) | (simp [*]; done)), H', ⟨by have := HJ1.out; have := HK2.out; omega⟩, by repeat (first | exact Drawn0.refl _ | apply Drawn0.step)⟩
                · rw [if_neg c10] at H
                  have c10b0 : ((Go.bits .and .i32 (ji9) 1) == 1) = false := beq_eq_false_iff_ne.mpr c10
                  have c10b1 : ((Go.bits .and .i32 (ji9) 1) != 1) = true := bne_iff_ne.mpr c10
                  have H' := Aside0.mk H
                  clear H
                  go_wp2_with (first | ((with_reducible refine gate_callee (f := 129) rfl ?_); refine goesL_ (some 18) rfl rfl Try.func0 (by kernel_rfl) rfl #[.int .i64 x15_2] rfl (by (try simp only [List.map_toArray, List.map_cons, List.map_nil]); first | done | rfl | (simp only [List.length_drop, List.length_take]; rfl)) ?_; (with_reducible refine (arr_logs_Exp_14.calls x15_2 t200 _ A6.out).mono ?_); rintro e w' ⟨rfl, ⟨nd, rfl⟩⟩; refine ⟨_, rfl, ?_⟩))
                  go_roundg k2
                  case measure => have := HJ1.out; have := HK2.out; omega
                  case rel => exact ⟨(x4_2), (wrap64 (x15_2 + 1)), (by first | rfl | (simp; done) | (simp [*]; done)), (by first | rfl | (simp; done) | (simp [*]; done)), H', ⟨by have := HJ1.out; have := HK2.out; omega⟩, by repeat (first | exact Drawn0.refl _ | apply Drawn0.step)⟩
              · rw [if_neg c8] at H
                exact absurd H (by simp)
            · rw [if_neg c5] at H
              have c5b0 : decide (x15_2 < 8) = false := decide_eq_false c5
              clear c5
              by_cases c11 : (wrap64 ((wrap64 (a0 / 256)) - 14)) ≥ 0
              · rw [if_pos c11] at H
                have c11b0 : decide (0 ≤ (wrap64 ((wrap64 (a0 / 256)) - 14))) = true := decide_eq_true c11
                clear c11
                obtain ⟨ji12, hji12⟩ : ∃ j_ : Int, (wrap64 ((wrap64 (a0 / 256)) - 14)) = j_ := ⟨_, rfl⟩
                replace H : (if 0 ≤ (ji12) then (some (shl .u64 x4_2 (ji12), 0)) else (none)) = some (r1, r2) := by first | (rw [hji12] at H; exact H) | (simp only [hji12] at H ⊢; exact H)
                (try rw [hji12] at c11b0)
                have hji12w : (IntKind.i64.wrap ((wrap64 (a0 / 256)) - 14)) = ji12 := (i64_w _).trans hji12
                by_cases c13 : 0 ≤ (ji12)
                · rw [if_pos c13] at H
                  have c13b0 := eq_true c13
                  have c13b1 : decide (0 ≤ (ji12)) = true := decide_eq_true c13
                  clear c13
                  obtain ⟨ji14, hji14⟩ : ∃ j_ : Int, (shl .u64 x4_2 (ji12)) = j_ := ⟨_, rfl⟩
                  replace H : (some (ji14, 0)) = some (r1, r2) := by first | (rw [hji14] at H; exact H) | (simp only [hji14] at H ⊢; exact H)
                  have hji14_ : (IntKind.u64.wrap (x4_2 * 2 ^ min (ji12).toNat 64)) = ji14 := hji14
                  have hji14z : (ji12) ≤ 64 → (IntKind.u64.wrap (x4_2 * 2 ^ (ji12).toNat)) = ji14 := shl_small hji14
                  simp only [Option.some.injEq, Prod.mk.injEq] at H
                  obtain ⟨rfl, rfl⟩ := H
                  go_wp2
                  go_ret2
                  exact ⟨by first | rfl | (simp; done) | (simp only [← hji12, ← hji14] <;> (first | rfl | simp)) | (simp [*]; done), by repeat (first | exact Drawn0.refl _ | apply Drawn0.step)⟩
                · rw [if_neg c13] at H
                  exact absurd H (by simp)
              · rw [if_neg c11] at H
                have c11b0 : decide (0 ≤ (wrap64 ((wrap64 (a0 / 256)) - 14))) = false := decide_eq_false c11
                clear c11
                replace H := Option.bind_eq_some_iff.mp H
                obtain ⟨t201, A150, H⟩ := H
                replace H : (some (IntKind.u64.wrap (t201), 0)) = some (r1, r2) := H
                have A15 := Aside0.mk A150
                clear A150
                simp only [Option.some.injEq, Prod.mk.injEq] at H
                obtain ⟨rfl, rfl⟩ := H
                go_wp2_with (first | ((with_reducible refine gate_callee (f := 54) rfl ?_); refine goesL_ (some 43) rfl rfl Try.func54 (by kernel_rfl) rfl #[.int .i64 (wrap64 (x4_2)), .int .i64 (wrap64 (-(wrap64 ((wrap64 (a0 / 256)) - 14))))] rfl (by (try simp only [List.map_toArray, List.map_cons, List.map_nil]); first | done | rfl | (simp only [List.length_drop, List.length_take]; rfl)) ?_; (with_reducible refine (fix_Round.calls (wrap64 (x4_2)) (wrap64 (-(wrap64 ((wrap64 (a0 / 256)) - 14)))) t201 _ A15.out).mono ?_); rintro e w' ⟨rfl, ⟨nd, rfl⟩⟩; refine ⟨_, rfl, ?_⟩))
                go_ret2
                exact ⟨by first | rfl | (simp; done) | (simp [*]; done), by repeat (first | exact Drawn0.refl _ | apply Drawn0.step)⟩

/-! ### fix_Sat32: function 100 -/
def fix_Sat32.f (a0 : Int) : Option (Int) := (fix_within_int64.f a0 (-2147483648) 2147483647).bind fun t202 => (some (wrap32 (t202)))
set_option maxHeartbeats 8000000 in
set_option maxRecDepth 100000 in
theorem fix_Sat32.calls (a0 : Int) (r : Int) (w : World) (h : fix_Sat32.f a0 = some r) :
    Calls Try.prog 100 #[.int .i64 a0] w fun e w' => e = .returned (.int .i32 r) ∧ Drawn0 w w' := by
  have H : ((fix_within_int64.f a0 (-2147483648) 2147483647).bind fun t202 => (some (wrap32 (t202)))) = some r := h
  clear h
  replace H := Option.bind_eq_some_iff.mp H
  obtain ⟨t202, A20, H⟩ := H
  replace H : (some (wrap32 (t202))) = some r := H
  have A2 := Aside0.mk A20
  clear A20
  obtain rfl := Option.some.inj H
  go_enter Try.func100, Try.ntmps100
  go_wp2_with (first | ((with_reducible refine gate_callee (f := 85) rfl ?_); refine goesL_ (some 4) rfl rfl Try.func85 (by kernel_rfl) rfl #[.int .i64 a0, .int .i64 (-2147483648), .int .i64 2147483647] rfl (by (try simp only [List.map_toArray, List.map_cons, List.map_nil]); first | done | rfl | (simp only [List.length_drop, List.length_take]; rfl)) ?_; (with_reducible refine (fix_within_int64.calls a0 (-2147483648) 2147483647 t202 _ A2.out).mono ?_); rintro e w' ⟨rfl, ⟨nd, rfl⟩⟩; refine ⟨_, rfl, ?_⟩))
  go_ret
  exact ⟨by first | rfl | (simp; done) | (simp [*]; done), by repeat (first | exact Drawn0.refl _ | apply Drawn0.step)⟩

-- NOT PRINTED: function 75 (shape_turned)

-- NOT PRINTED: function 37 (shape_Even)

-- NOT PRINTED: function 10 (psalterylaw16_ShapeSays)

-- NOT PRINTED: function 39 (shape_Uneven)

-- NOT PRINTED: function 40 (psalteryref16_Check)

-- NOT PRINTED: function 41 (psalteryref16_Says)

/-! ### psalteryref01_down: function 87 -/
def psalteryref01_down.f (a0 : Int) (a1 : Int) : Option (Int) := if a1 = 0 then (none) else (if (Int.tmod a0 a1) < 0 then (some (wrap64 ((wrap64 (Int.tdiv a0 a1)) - 1))) else (some (wrap64 (Int.tdiv a0 a1))))
set_option maxHeartbeats 8000000 in
set_option maxRecDepth 100000 in
theorem psalteryref01_down.calls (a0 : Int) (a1 : Int) (r : Int) (w : World) (h : psalteryref01_down.f a0 a1 = some r) :
    Calls Try.prog 87 #[.int .i64 a0, .int .i64 a1] w fun e w' => e = .returned (.int .i64 r) ∧ Drawn0 w w' := by
  have H : (if a1 = 0 then (none) else (if (Int.tmod a0 a1) < 0 then (some (wrap64 ((wrap64 (Int.tdiv a0 a1)) - 1))) else (some (wrap64 (Int.tdiv a0 a1))))) = some r := h
  clear h
  by_cases c3 : a1 = 0
  · rw [if_pos c3] at H
    exact absurd H (by simp)
  · rw [if_neg c3] at H
    have c3b0 : (a1 == 0) = false := beq_eq_false_iff_ne.mpr c3
    have c3b1 : (a1 != 0) = true := bne_iff_ne.mpr c3
    by_cases c4 : (Int.tmod a0 a1) < 0
    · rw [if_pos c4] at H
      have c4b0 : decide ((Int.tmod a0 a1) < 0) = true := decide_eq_true c4
      clear c4
      obtain rfl := Option.some.inj H
      go_enter Try.func87, Try.ntmps87
      go_wp2
      go_ret
      exact ⟨by first | rfl | (simp; done) | (simp [*]; done), by repeat (first | exact Drawn0.refl _ | apply Drawn0.step)⟩
    · rw [if_neg c4] at H
      have c4b0 : decide ((Int.tmod a0 a1) < 0) = false := decide_eq_false c4
      clear c4
      obtain rfl := Option.some.inj H
      go_enter Try.func87, Try.ntmps87
      go_wp2
      go_ret
      exact ⟨by first | rfl | (simp; done) | (simp [*]; done), by repeat (first | exact Drawn0.refl _ | apply Drawn0.step)⟩

/-! ### psalteryref01_Round: function 55 -/
def psalteryref01_Round.f (a0 : Int) (a1 : Int) : Option (Int) := if (mx (mn a1 62) 0) = 0 then (some a0) else (if 0 ≤ (IntKind.u64.wrap ((mx (mn a1 62) 0) - 1)) then ((psalteryref01_down.f a0 (shl .i64 1 (IntKind.u64.wrap ((mx (mn a1 62) 0) - 1)))).bind fun t203 => ((psalteryref01_down.f (wrap64 (t203 + 1)) 2).bind fun t204 => (some t204))) else (none))
set_option maxHeartbeats 8000000 in
set_option maxRecDepth 100000 in
theorem psalteryref01_Round.calls (a0 : Int) (a1 : Int) (r : Int) (w : World) (h : psalteryref01_Round.f a0 a1 = some r) :
    Calls Try.prog 55 #[.int .i64 a0, .int .i64 a1] w fun e w' => e = .returned (.int .i64 r) ∧ Below w.heap.size w w' := by
  have HB := Aside0.mk (Below.refl w.heap.size w)
  have H : (if (mx (mn a1 62) 0) = 0 then (some a0) else (if 0 ≤ (IntKind.u64.wrap ((mx (mn a1 62) 0) - 1)) then ((psalteryref01_down.f a0 (shl .i64 1 (IntKind.u64.wrap ((mx (mn a1 62) 0) - 1)))).bind fun t203 => ((psalteryref01_down.f (wrap64 (t203 + 1)) 2).bind fun t204 => (some t204))) else (none))) = some r := h
  clear h
  obtain ⟨ji3, hji3⟩ : ∃ j_ : Int, (mn a1 62) = j_ := ⟨_, rfl⟩
  replace H : (if (mx (ji3) 0) = 0 then (some a0) else (if 0 ≤ (IntKind.u64.wrap ((mx (ji3) 0) - 1)) then ((psalteryref01_down.f a0 (shl .i64 1 (IntKind.u64.wrap ((mx (ji3) 0) - 1)))).bind fun t203 => ((psalteryref01_down.f (wrap64 (t203 + 1)) 2).bind fun t204 => (some t204))) else (none))) = some r := by first | (rw [hji3] at H; exact H) | (simp only [hji3] at H ⊢; exact H)
  (try (have hji3h : ji3 ≤ 62 := by (rw [← hji3]; unfold mn; (repeat' split) <;> omega)))
  (try (have hji3g : ji3 ≤ 64 := by omega))
  have hji3_ : (if 62 < a1 then 62 else a1) = ji3 := hji3
  obtain ⟨ji4, hji4⟩ : ∃ j_ : Int, (mx (ji3) 0) = j_ := ⟨_, rfl⟩
  replace H : (if (ji4) = 0 then (some a0) else (if 0 ≤ (IntKind.u64.wrap ((ji4) - 1)) then ((psalteryref01_down.f a0 (shl .i64 1 (IntKind.u64.wrap ((ji4) - 1)))).bind fun t203 => ((psalteryref01_down.f (wrap64 (t203 + 1)) 2).bind fun t204 => (some t204))) else (none))) = some r := by first | (rw [hji4] at H; exact H) | (simp only [hji4] at H ⊢; exact H)
  have hji4_ : (if (ji3) < 0 then 0 else (ji3)) = ji4 := hji4
  by_cases c5 : (ji4) = 0
  · rw [if_pos c5] at H
    have c5b0 : ((ji4) == 0) = true := beq_iff_eq.mpr c5
    have c5b1 : ((ji4) != 0) = false := bne_eq_false_iff_eq.mpr c5
    clear c5
    obtain rfl := Option.some.inj H
    go_enter Try.func55, Try.ntmps55
    go_wp2
    go_ret
    exact ⟨by first | rfl | (simp [errW_none, errW_some] <;> rfl) | (simp only [← hji3, ← hji4]; first | rfl | (simp [errW_none, errW_some] <;> rfl)) | (simp [*, errW_none, errW_some] <;> rfl), by repeat (first | (with_reducible first | exact HB.out | apply below_alloc | apply pw_below_drewN | apply below_drew1) | exact HB.out)⟩
  · rw [if_neg c5] at H
    have c5b0 : ((ji4) == 0) = false := beq_eq_false_iff_ne.mpr c5
    have c5b1 : ((ji4) != 0) = true := bne_iff_ne.mpr c5
    obtain ⟨ji6, hji6⟩ : ∃ j_ : Int, (IntKind.u64.wrap ((ji4) - 1)) = j_ := ⟨_, rfl⟩
    replace H : (if 0 ≤ (ji6) then ((psalteryref01_down.f a0 (shl .i64 1 (ji6))).bind fun t203 => ((psalteryref01_down.f (wrap64 (t203 + 1)) 2).bind fun t204 => (some t204))) else (none)) = some r := by first | (rw [hji6] at H; exact H) | (simp only [hji6] at H ⊢; exact H)
    by_cases c7 : 0 ≤ (ji6)
    · rw [if_pos c7] at H
      have c7b0 := eq_true c7
      have c7b1 : decide (0 ≤ (ji6)) = true := decide_eq_true c7
      clear c7
      obtain ⟨ji8, hji8⟩ : ∃ j_ : Int, (shl .i64 1 (ji6)) = j_ := ⟨_, rfl⟩
      replace H : ((psalteryref01_down.f a0 (ji8)).bind fun t203 => ((psalteryref01_down.f (wrap64 (t203 + 1)) 2).bind fun t204 => (some t204))) = some r := by first | (rw [hji8] at H; exact H) | (simp only [hji8] at H ⊢; exact H)
      have hji8_ : (IntKind.i64.wrap (1 * 2 ^ min (ji6).toNat 64)) = ji8 := hji8
      have hji8z : (ji6) ≤ 64 → (IntKind.i64.wrap (1 * 2 ^ (ji6).toNat)) = ji8 := shl_small hji8
      have hji8u : (IntKind.i64.wrap (2 ^ min (ji6).toNat 64)) = ji8 := by have h_ := hji8_; rw [Int.one_mul] at h_; exact h_
      have hji8v : (ji6) ≤ 64 → (IntKind.i64.wrap (2 ^ (ji6).toNat)) = ji8 := fun hle_ => by have h_ := hji8z hle_; rw [Int.one_mul] at h_; exact h_
      have hji8y : (wrap64 (1 * 2 ^ min (ji6).toNat 64)) = ji8 := (i64_w _).symm.trans hji8_
      have hji8x : (ji6) ≤ 64 → (wrap64 (1 * 2 ^ (ji6).toNat)) = ji8 := fun h_ => (i64_w _).symm.trans (hji8z h_)
      have hq_ : ji6 = ji3 - 1 ∧ 0 < ji3 := by
        have h1_ := hji4_; have h2_ := hji6; rw [IntKind.wrap_u64] at h2_
        split at h1_ <;> omega
      have hji8q : (wrap64 (2 ^ (ji3.toNat - 1))) = ji8 := by
        have e_ : ji6.toNat = ji3.toNat - 1 := by omega
        rw [← e_]; exact (i64_w _).symm.trans (hji8v (by omega))
      clear hq_
      replace H := Option.bind_eq_some_iff.mp H
      obtain ⟨t203, A90, H⟩ := H
      replace H : ((psalteryref01_down.f (wrap64 (t203 + 1)) 2).bind fun t204 => (some t204)) = some r := H
      have A9 := Aside0.mk A90
      clear A90
      replace H := Option.bind_eq_some_iff.mp H
      obtain ⟨t204, A100, H⟩ := H
      replace H : (some t204) = some r := H
      have A10 := Aside0.mk A100
      clear A100
      obtain rfl := Option.some.inj H
      go_enter Try.func55, Try.ntmps55
      go_wp2_with (first | ((with_reducible refine gate_callee (f := 87) rfl ?_); refine goesL_ (some 18) rfl rfl Try.func87 (by kernel_rfl) rfl #[.int .i64 a0, .int .i64 ji8] rfl (by (try simp only [List.map_toArray, List.map_cons, List.map_nil]); first | done | (simp only [hji8]; rfl) | rfl | (simp [Act.eval]; exact hji8q) | (simp only [List.length_drop, List.length_take]; rfl)) ?_; (with_reducible refine (psalteryref01_down.calls a0 ji8 t203 _ A9.out).mono ?_); rintro e w' ⟨rfl, ⟨nd, rfl⟩⟩; refine ⟨_, rfl, ?_⟩) | ((with_reducible refine gate_callee (f := 87) rfl ?_); refine goesL_ (some 20) rfl rfl Try.func87 (by kernel_rfl) rfl #[.int .i64 (wrap64 (t203 + 1)), .int .i64 2] rfl (by (try simp only [List.map_toArray, List.map_cons, List.map_nil]); first | done | rfl | (simp only [List.length_drop, List.length_take]; rfl)) ?_; (with_reducible refine (psalteryref01_down.calls (wrap64 (t203 + 1)) 2 t204 _ A10.out).mono ?_); rintro e w' ⟨rfl, ⟨nd, rfl⟩⟩; refine ⟨_, rfl, ?_⟩))
      go_ret
      exact ⟨by first | rfl | (simp [errW_none, errW_some] <;> rfl) | (simp only [← hji3, ← hji4, ← hji6, ← hji8]; first | rfl | (simp [errW_none, errW_some] <;> rfl)) | (simp [*, errW_none, errW_some] <;> rfl), by repeat (first | (with_reducible first | exact HB.out | apply below_alloc | apply pw_below_drewN | apply below_drew1) | exact HB.out)⟩
    · rw [if_neg c7] at H
      exact absurd H (by simp)

/-! ### psalteryref01_Sat: function 56 -/
def psalteryref01_Sat.f (a0 : Int) (a1 : Int) : Option (Int) := if 0 ≤ (IntKind.u64.wrap (wrap64 (a1 - 1))) then (if a0 > (wrap64 ((shl .i64 1 (IntKind.u64.wrap (wrap64 (a1 - 1)))) - 1)) then (some (wrap64 ((shl .i64 1 (IntKind.u64.wrap (wrap64 (a1 - 1)))) - 1))) else (if a0 < (wrap64 ((wrap64 (-(wrap64 ((shl .i64 1 (IntKind.u64.wrap (wrap64 (a1 - 1)))) - 1)))) - 1)) then (some (wrap64 ((wrap64 (-(wrap64 ((shl .i64 1 (IntKind.u64.wrap (wrap64 (a1 - 1)))) - 1)))) - 1))) else (some a0))) else (none)
set_option maxHeartbeats 8000000 in
set_option maxRecDepth 100000 in
theorem psalteryref01_Sat.calls (a0 : Int) (a1 : Int) (r : Int) (w : World) (h : psalteryref01_Sat.f a0 a1 = some r) :
    Calls Try.prog 56 #[.int .i64 a0, .int .i64 a1] w fun e w' => e = .returned (.int .i64 r) ∧ Drawn0 w w' := by
  have H : (if 0 ≤ (IntKind.u64.wrap (wrap64 (a1 - 1))) then (if a0 > (wrap64 ((shl .i64 1 (IntKind.u64.wrap (wrap64 (a1 - 1)))) - 1)) then (some (wrap64 ((shl .i64 1 (IntKind.u64.wrap (wrap64 (a1 - 1)))) - 1))) else (if a0 < (wrap64 ((wrap64 (-(wrap64 ((shl .i64 1 (IntKind.u64.wrap (wrap64 (a1 - 1)))) - 1)))) - 1)) then (some (wrap64 ((wrap64 (-(wrap64 ((shl .i64 1 (IntKind.u64.wrap (wrap64 (a1 - 1)))) - 1)))) - 1))) else (some a0))) else (none)) = some r := h
  clear h
  obtain ⟨ji3, hji3⟩ : ∃ j_ : Int, (IntKind.u64.wrap (wrap64 (a1 - 1))) = j_ := ⟨_, rfl⟩
  replace H : (if 0 ≤ (ji3) then (if a0 > (wrap64 ((shl .i64 1 (ji3)) - 1)) then (some (wrap64 ((shl .i64 1 (ji3)) - 1))) else (if a0 < (wrap64 ((wrap64 (-(wrap64 ((shl .i64 1 (ji3)) - 1)))) - 1)) then (some (wrap64 ((wrap64 (-(wrap64 ((shl .i64 1 (ji3)) - 1)))) - 1))) else (some a0))) else (none)) = some r := by first | (rw [hji3] at H; exact H) | (simp only [hji3] at H ⊢; exact H)
  by_cases c4 : 0 ≤ (ji3)
  · rw [if_pos c4] at H
    have c4b0 := eq_true c4
    have c4b1 : decide (0 ≤ (ji3)) = true := decide_eq_true c4
    clear c4
    obtain ⟨ji5, hji5⟩ : ∃ j_ : Int, (shl .i64 1 (ji3)) = j_ := ⟨_, rfl⟩
    replace H : (if a0 > (wrap64 ((ji5) - 1)) then (some (wrap64 ((ji5) - 1))) else (if a0 < (wrap64 ((wrap64 (-(wrap64 ((ji5) - 1)))) - 1)) then (some (wrap64 ((wrap64 (-(wrap64 ((ji5) - 1)))) - 1))) else (some a0))) = some r := by first | (rw [hji5] at H; exact H) | (simp only [hji5] at H ⊢; exact H)
    have hji5_ : (IntKind.i64.wrap (1 * 2 ^ min (ji3).toNat 64)) = ji5 := hji5
    have hji5z : (ji3) ≤ 64 → (IntKind.i64.wrap (1 * 2 ^ (ji3).toNat)) = ji5 := shl_small hji5
    have hji5u : (IntKind.i64.wrap (2 ^ min (ji3).toNat 64)) = ji5 := by have h_ := hji5_; rw [Int.one_mul] at h_; exact h_
    have hji5v : (ji3) ≤ 64 → (IntKind.i64.wrap (2 ^ (ji3).toNat)) = ji5 := fun hle_ => by have h_ := hji5z hle_; rw [Int.one_mul] at h_; exact h_
    have hji5y : (wrap64 (1 * 2 ^ min (ji3).toNat 64)) = ji5 := (i64_w _).symm.trans hji5_
    have hji5x : (ji3) ≤ 64 → (wrap64 (1 * 2 ^ (ji3).toNat)) = ji5 := fun h_ => (i64_w _).symm.trans (hji5z h_)
    by_cases c6 : a0 > (wrap64 ((ji5) - 1))
    · rw [if_pos c6] at H
      have c6b0 : decide ((wrap64 ((ji5) - 1)) < a0) = true := decide_eq_true c6
      clear c6
      obtain rfl := Option.some.inj H
      go_enter Try.func56, Try.ntmps56
      go_wp2
      go_ret
      exact ⟨by first | rfl | (simp; done) | (simp only [← hji3, ← hji5] <;> (first | rfl | simp)) | (simp [*]; done), by repeat (first | exact Drawn0.refl _ | apply Drawn0.step)⟩
    · rw [if_neg c6] at H
      have c6b0 : decide ((wrap64 ((ji5) - 1)) < a0) = false := decide_eq_false c6
      clear c6
      by_cases c7 : a0 < (wrap64 ((wrap64 (-(wrap64 ((ji5) - 1)))) - 1))
      · rw [if_pos c7] at H
        have c7b0 : decide (a0 < (wrap64 ((wrap64 (-(wrap64 ((ji5) - 1)))) - 1))) = true := decide_eq_true c7
        clear c7
        obtain rfl := Option.some.inj H
        go_enter Try.func56, Try.ntmps56
        go_wp2
        go_ret
        exact ⟨by first | rfl | (simp; done) | (simp only [← hji3, ← hji5] <;> (first | rfl | simp)) | (simp [*]; done), by repeat (first | exact Drawn0.refl _ | apply Drawn0.step)⟩
      · rw [if_neg c7] at H
        have c7b0 : decide (a0 < (wrap64 ((wrap64 (-(wrap64 ((ji5) - 1)))) - 1))) = false := decide_eq_false c7
        clear c7
        obtain rfl := Option.some.inj H
        go_enter Try.func56, Try.ntmps56
        go_wp2
        go_ret
        exact ⟨by first | rfl | (simp; done) | (simp only [← hji3, ← hji5] <;> (first | rfl | simp)) | (simp [*]; done), by repeat (first | exact Drawn0.refl _ | apply Drawn0.step)⟩
  · rw [if_neg c4] at H
    exact absurd H (by simp)

/-! ### psalteryref02_roots: function 101 -/
def psalteryref02_roots.f  : Option (List Int) := some (([1518500249, 1276901416, 1170923761, 1121280435, 1097253708, 1085434105, 1079572135, 1076653033] : List Int))
set_option maxHeartbeats 8000000 in
set_option maxRecDepth 100000 in
theorem psalteryref02_roots.calls  (r : List Int) (w : World) (h : psalteryref02_roots.f  = some r) :
    Calls Try.prog 101 #[] w fun e w' => ∃ v0_ : Value, e = .returned (v0_) ∧ Kd.R (Kd.int .u64) 90 w' w.heap.size (fun _ => True) v0_ r ∧ Below w.heap.size w w' := by
  have HB := Aside0.mk (Below.refl w.heap.size w)
  have H : (some (([1518500249, 1276901416, 1170923761, 1121280435, 1097253708, 1085434105, 1079572135, 1076653033] : List Int))) = some r := h
  clear h
  obtain ⟨y205, hy205⟩ : ∃ y_ : List Int, y_ = (([1518500249, 1276901416, 1170923761, 1121280435, 1097253708, 1085434105, 1079572135, 1076653033] : List Int)) := ⟨_, rfl⟩
  replace H : (some y205) = some r := by first | (rw [hy205]; with_reducible exact H) | (have H2_ := (Option.bind_some _ _).symm.trans H; rw [hy205]; with_reducible exact H2_) | (have H2_ := (Option.bind_some _ _).symm.trans H; with_reducible exact H2_) | with_reducible exact H | (rw [hy205]; exact H) | exact H
  have Ny205 := Aside0.mk hy205
  clear hy205
  obtain rfl := Option.some.inj H
  go_enter Try.func101, Try.ntmps101
  go_wp2_with (first | ((with_reducible refine gate_dst (N := 1) rfl ?_); refine Kd.R_lit (Kd.int .u64) _ 90 ?hg (N := 1) ?hd (xs := ([1518500249, 1276901416, 1170923761, 1121280435, 1097253708, 1085434105, 1079572135, 1076653033] : List Int)) (inner := [.int .u64 1518500249, .int .u64 1276901416, .int .u64 1170923761, .int .u64 1121280435, .int .u64 1097253708, .int .u64 1085434105, .int .u64 1079572135, .int .u64 1076653033]) (ok := fun _ => True) (okp := fun _ => True) ?hr ?hp (fun _ hk => hk) trivial (Below.refl _ _) (Nat.le_refl _) (by simp) ?_; (case hd => rfl); (case hg => rfl); (case hr => first | (go_simp; done) | (go_simp; rfl)); (case hp => exact (Reps.one (show Kd.M (Kd.int .u64) _ _ _ 1518500249 [.int .u64 1518500249] from rfl) (Reps.one (show Kd.M (Kd.int .u64) _ _ _ 1276901416 [.int .u64 1276901416] from rfl) (Reps.one (show Kd.M (Kd.int .u64) _ _ _ 1170923761 [.int .u64 1170923761] from rfl) (Reps.one (show Kd.M (Kd.int .u64) _ _ _ 1121280435 [.int .u64 1121280435] from rfl) (Reps.one (show Kd.M (Kd.int .u64) _ _ _ 1097253708 [.int .u64 1097253708] from rfl) (Reps.one (show Kd.M (Kd.int .u64) _ _ _ 1085434105 [.int .u64 1085434105] from rfl) (Reps.one (show Kd.M (Kd.int .u64) _ _ _ 1079572135 [.int .u64 1079572135] from rfl) (Reps.one (show Kd.M (Kd.int .u64) _ _ _ 1076653033 [.int .u64 1076653033] from rfl) (Reps.none _ _)))))))))); intro v206 w1 ho2 hb hg_ hnew_; clear hg_ hnew_; (first | rw [← Ny205.out] at ho2 | (simp only [Int.reduceToNat] at ho2; rw [← Ny205.out] at ho2)); have n0_ := Aside0.mk (Kd.R_lower ho2 (below_size (by repeat (first | (with_reducible first | exact HB.out | apply below_alloc | apply pw_below_drewN | apply below_drew1) | exact HB.out)))); have n1_ := Aside0.mk (below_step (by repeat (first | (with_reducible first | exact HB.out | apply below_alloc | apply pw_below_drewN | apply below_drew1) | exact HB.out)) hb); clear HB; have HO207 := n0_; have HB := n1_; clear n0_ n1_; clear hb ho2))
  go_ret
  exact ⟨_, by first | rfl | (simp [errW_none, errW_some] <;> rfl) | (simp [*, errW_none, errW_some] <;> rfl), by (with_reducible repeat (first | apply Kd.R_alloc | apply Kd.R_drewN | apply Kd.R_drew)); exact HO207.out, by repeat (first | (with_reducible first | exact HB.out | apply below_alloc | apply pw_below_drewN | apply below_drew1) | exact HB.out)⟩

/-! ### psalteryref02_Exp: function 77 -/
mutual
def psalteryref02_Exp.j0 : Nat → Int → Bool → Option (Int × Int)
  | 0, _, _ => none
  | k + 1, x0, x15 => if x15 = true then (some (0, 1)) else ((psalteryref02_roots.f).bind fun t208 => (psalteryref02_Exp.l0 k (Int.tmod (wrap64 ((wrap64 (x0)) + 4096)) 256) (wrap64 ((wrap64 (Int.tdiv (wrap64 ((wrap64 (x0)) + 4096)) 256)) - 16)) 1073741824 t208 128 0))
def psalteryref02_Exp.l0 : Nat → Int → Int → Int → List Int → Int → Int → Option (Int × Int)
  | 0, _, _, _, _, _, _ => none
  | k + 1, x4, x5, x6, x7, x8, x9 => if x9 < 8 then (if x4 ≥ x8 then (if 0 ≤ x9 then (if x9 < (x7.length : Int) then (psalteryref02_Exp.l0 k (wrap64 (x4 - x8)) x5 (IntKind.u64.wrap (Int.tdiv (IntKind.u64.wrap (x6 * (rd x7 x9))) 1073741824)) x7 (wrap64 (Int.tdiv x8 2)) (wrap64 (x9 + 1))) else (none)) else (none)) else (psalteryref02_Exp.l0 k x4 x5 x6 x7 (wrap64 (Int.tdiv x8 2)) (wrap64 (x9 + 1)))) else (psalteryref02_Exp.l1 k x5 x6)
def psalteryref02_Exp.l1 : Nat → Int → Int → Option (Int × Int)
  | 0, _, _ => none
  | k + 1, x5, x6 => if x5 > 14 then (psalteryref02_Exp.l1 k (wrap64 (x5 - 1)) (IntKind.u64.wrap (x6 * 2))) else ((psalteryref01_Round.f (wrap64 (x6)) (wrap64 (14 - x5))).bind fun t212 => (some (IntKind.u64.wrap (t212), 0)))
end
def psalteryref02_Exp.f (k : Nat) (a0 : Int) : Option (Int × Int) := if a0 < (-4096) then (psalteryref02_Exp.j0 k a0 true) else (psalteryref02_Exp.j0 k a0 (decide (a0 > 7680)))
theorem psalteryref02_Exp.mono_l : ∀ k, (∀ y0 y1, LeO (psalteryref02_Exp.j0 k y0 y1) (psalteryref02_Exp.j0 (k + 1) y0 y1)) ∧ (∀ y0 y1 y2 y3 y4 y5, LeO (psalteryref02_Exp.l0 k y0 y1 y2 y3 y4 y5) (psalteryref02_Exp.l0 (k + 1) y0 y1 y2 y3 y4 y5)) ∧ (∀ y0 y1, LeO (psalteryref02_Exp.l1 k y0 y1) (psalteryref02_Exp.l1 (k + 1) y0 y1))
  | 0 => ⟨fun _ _ r h => by simp [psalteryref02_Exp.j0] at h, fun _ _ _ _ _ _ r h => by simp [psalteryref02_Exp.l0] at h, fun _ _ r h => by simp [psalteryref02_Exp.l1] at h⟩
  | k + 1 => by
    obtain ⟨ih0, ih1, ih2⟩ := psalteryref02_Exp.mono_l k
    refine ⟨?_, ?_, ?_⟩
    · intro y0 y1
      unfold psalteryref02_Exp.j0
      repeat' first
      | (with_reducible exact ih0 _ _)
      | (with_reducible exact ih1 _ _ _ _ _ _)
      | (with_reducible exact ih2 _ _)
      | (with_reducible exact LeO.refl _)
      | (with_reducible exact LeO.none _)
      | (with_reducible refine LeO.ite ?_ ?_)
      | (with_reducible refine LeO.bind ?_ (fun _ => ?_))
      | exact ih0 _ _
      | exact ih1 _ _ _ _ _ _
      | exact ih2 _ _
      | exact LeO.none _
      | refine LeO.ite ?_ ?_
      | refine LeO.bind ?_ (fun _ => ?_)
    · intro y0 y1 y2 y3 y4 y5
      unfold psalteryref02_Exp.l0
      repeat' first
      | (with_reducible exact ih0 _ _)
      | (with_reducible exact ih1 _ _ _ _ _ _)
      | (with_reducible exact ih2 _ _)
      | (with_reducible exact LeO.refl _)
      | (with_reducible exact LeO.none _)
      | (with_reducible refine LeO.ite ?_ ?_)
      | (with_reducible refine LeO.bind ?_ (fun _ => ?_))
      | exact ih0 _ _
      | exact ih1 _ _ _ _ _ _
      | exact ih2 _ _
      | exact LeO.none _
      | refine LeO.ite ?_ ?_
      | refine LeO.bind ?_ (fun _ => ?_)
    · intro y0 y1
      unfold psalteryref02_Exp.l1
      repeat' first
      | (with_reducible exact ih0 _ _)
      | (with_reducible exact ih1 _ _ _ _ _ _)
      | (with_reducible exact ih2 _ _)
      | (with_reducible exact LeO.refl _)
      | (with_reducible exact LeO.none _)
      | (with_reducible refine LeO.ite ?_ ?_)
      | (with_reducible refine LeO.bind ?_ (fun _ => ?_))
      | exact ih0 _ _
      | exact ih1 _ _ _ _ _ _
      | exact ih2 _ _
      | exact LeO.none _
      | refine LeO.ite ?_ ?_
      | refine LeO.bind ?_ (fun _ => ?_)
theorem psalteryref02_Exp.mono : ∀ a0 k, LeO (psalteryref02_Exp.f k a0) (psalteryref02_Exp.f (k + 1) a0) := by
  intro a0 k
  obtain ⟨ih0, ih1, ih2⟩ := psalteryref02_Exp.mono_l k
  unfold psalteryref02_Exp.f
  repeat' first
      | (with_reducible exact ih0 _ _)
      | (with_reducible exact ih1 _ _ _ _ _ _)
      | (with_reducible exact ih2 _ _)
      | (with_reducible exact LeO.refl _)
      | (with_reducible exact LeO.none _)
      | (with_reducible refine LeO.ite ?_ ?_)
      | (with_reducible refine LeO.bind ?_ (fun _ => ?_))
      | exact ih0 _ _
      | exact ih1 _ _ _ _ _ _
      | exact ih2 _ _
      | exact LeO.none _
      | refine LeO.ite ?_ ?_
      | refine LeO.bind ?_ (fun _ => ?_)
set_option maxHeartbeats 8000000 in
set_option maxRecDepth 100000 in
theorem psalteryref02_Exp.calls (k : Nat) (a0 : Int) (r1 : Int) (r2 : Int) (w : World) (h : psalteryref02_Exp.f k a0 = some (r1, r2)) :
    Calls Try.prog 77 #[.int .i32 a0] w fun e w' => e = .returned (.tuple #[.int .u64 r1, .int .i64 r2]) ∧ Below w.heap.size w w' := by
  have HB := Aside0.mk (Below.refl w.heap.size w)
  have H : (if a0 < (-4096) then (psalteryref02_Exp.j0 k a0 true) else (psalteryref02_Exp.j0 k a0 (decide (a0 > 7680)))) = some (r1, r2) := h
  clear h
  have HC2 := Aside0.mk H
  clear H
  go_enter Try.func77, Try.ntmps77
  go_upto_region 1 with (fail)
  go_cut [15] (fun v15 wc => ∃ (kq : Nat) (x15_1 : Bool), v15 = .bool x15_1 ∧ Aside0 (psalteryref02_Exp.j0 kq a0 x15_1 = some (r1, r2)) ∧ Aside0 (kq ≤ k) ∧ Aside0 (Below w.heap.size w wc))
  case first =>
    have H := HC2.out
    clear HC2
    by_cases c3 : a0 < (-4096)
    · rw [if_pos c3] at H
      have c3b0 : decide (a0 < (-4096)) = true := decide_eq_true c3
      clear c3
      (first | rw [c3b0] | (simp only [i64_w, i32_w]; rw [c3b0]) | skip)
      have H' := Aside0.mk H
      clear H
      go_wp2
      go_meet
      case rel => exact ⟨_, (true), (by first | rfl | (simp; done) | (simp [*]; done)), H', ⟨by first | omega | exact Nat.le_refl _⟩, ⟨by repeat (first | (with_reducible first | exact HB.out | apply below_alloc | apply pw_below_drewN | apply below_drew1) | exact HB.out)⟩⟩
    · rw [if_neg c3] at H
      have c3b0 : decide (a0 < (-4096)) = false := decide_eq_false c3
      clear c3
      (first | rw [c3b0] | (simp only [i64_w, i32_w]; rw [c3b0]) | skip)
      have H' := Aside0.mk H
      clear H
      go_wp2
      go_meet
      case rel => exact ⟨_, (decide (a0 > 7680)), (by first | rfl | (simp; done) | (simp [*]; done)), H', ⟨by first | omega | exact Nat.le_refl _⟩, ⟨by repeat (first | (with_reducible first | exact HB.out | apply below_alloc | apply pw_below_drewN | apply below_drew1) | exact HB.out)⟩⟩
  case rest =>
    clear HC2
    try clear p2
    try clear c3
    try clear c3b0
    obtain ⟨kq, x15_1, rfl, HA, HJ1, HB⟩ := hcut
    cases kq with
    | zero => exact absurd HA.out (by simp [psalteryref02_Exp.j0])
    | succ kj1 =>
      have H := HA.out
      clear HA
      simp only [psalteryref02_Exp.j0] at H
      by_cases c4 : x15_1 = true
      · subst c4
        have H1 : (some (0, 1)) = some (r1, r2) := by rw [if_pos rfl] at H; exact H
        clear H
        have H := H1
        clear H1
        simp only [Option.some.injEq, Prod.mk.injEq] at H
        obtain ⟨rfl, rfl⟩ := H
        go_wp2
        go_ret2
        exact ⟨by first | rfl | (simp [errW_none, errW_some] <;> rfl) | (simp [*, errW_none, errW_some] <;> rfl), by repeat (first | (with_reducible first | exact HB.out | apply below_alloc | apply pw_below_drewN | apply below_drew1) | exact HB.out)⟩
      · replace c4 := Bool.eq_false_iff.mpr c4
        subst c4
        have H1 : ((psalteryref02_roots.f).bind fun t208 => (psalteryref02_Exp.l0 kj1 (Int.tmod (wrap64 ((wrap64 (a0)) + 4096)) 256) (wrap64 ((wrap64 (Int.tdiv (wrap64 ((wrap64 (a0)) + 4096)) 256)) - 16)) 1073741824 t208 128 0)) = some (r1, r2) := by rw [if_neg (show ¬ (false = true) by decide)] at H; exact H
        clear H
        have H := H1
        clear H1
        replace H := Option.bind_eq_some_iff.mp H
        obtain ⟨t208, A50, H⟩ := H
        replace H : (psalteryref02_Exp.l0 kj1 (Int.tmod (wrap64 ((wrap64 (a0)) + 4096)) 256) (wrap64 ((wrap64 (Int.tdiv (wrap64 ((wrap64 (a0)) + 4096)) 256)) - 16)) 1073741824 t208 128 0) = some (r1, r2) := H
        have A5 := Aside0.mk A50
        clear A50
        have H' := Aside0.mk H
        clear H
        go_wp2_with (first | ((with_reducible refine gate_callee (f := 101) rfl ?_); refine goesL_ (some 24) rfl rfl Try.func101 (by kernel_rfl) rfl #[] rfl (by (try simp only [List.map_toArray, List.map_cons, List.map_nil]); first | done | rfl | (simp only [List.length_drop, List.length_take]; rfl)) ?_; (with_reducible refine (psalteryref02_roots.calls  t208 _ A5.out).mono ?_); rintro e w6 ⟨v209, rfl, ho0, hb⟩; refine ⟨_, rfl, ?_⟩; have n0_ := Aside0.mk (Kd.R_lower ho0 (below_size (by repeat (first | (with_reducible first | exact HB.out | apply below_alloc | apply pw_below_drewN | apply below_drew1) | exact HB.out)))); have n1_ := Aside0.mk (below_step (by repeat (first | (with_reducible first | exact HB.out | apply below_alloc | apply pw_below_drewN | apply below_drew1) | exact HB.out)) hb); clear HB; have HO210 := n0_; have HB := n1_; clear n0_ n1_; (try clear hb); (try clear hb2); (try clear hk); (try clear hi); (try clear ho0)))
        go_loopg [4, 6, 8, 9] kj1 (fun kq v4 v6 v8 v9 w' => ∃ (x4_2 : Int) (x6_2 : Int) (x8_2 : Int) (x9_2 : Int), v4 = .int .i64 x4_2 ∧ v6 = .int .u64 x6_2 ∧ v8 = .int .i64 x8_2 ∧ v9 = .int .i64 x9_2 ∧ Aside0 (psalteryref02_Exp.l0 kq x4_2 (wrap64 ((wrap64 (Int.tdiv (wrap64 ((wrap64 (a0)) + 4096)) 256)) - 16)) x6_2 t208 x8_2 x9_2 = some (r1, r2)) ∧ Aside0 (kq ≤ kj1) ∧ Aside0 (Kd.R (Kd.int .u64) 90 w' w.heap.size (fun _ => True) v209 t208) ∧ Aside0 (Below w.heap.size w w'))
        case atStart => exact ⟨(Int.tmod (wrap64 ((wrap64 (a0)) + 4096)) 256), (1073741824), (128), (0), (by first | rfl | (simp; done) | (simp [*]; done)), (by first | rfl | (simp; done) | (simp [*]; done)), (by first | rfl | (simp; done) | (simp [*]; done)), (by first | rfl | (simp; done) | (simp [*]; done)), H', ⟨Nat.le_refl _⟩, ⟨by (with_reducible repeat (first | apply Kd.R_alloc | apply Kd.R_drewN | apply Kd.R_drew)); exact HO210.out⟩, ⟨by repeat (first | (with_reducible first | exact HB.out | apply below_alloc | apply pw_below_drewN | apply below_drew1) | exact HB.out)⟩⟩
        case round =>
          clear H'
          try clear c1
          try clear p2
          try clear c3
          try clear c3b0
          try clear c4
          try clear p6
          try clear p2
          obtain ⟨x4_2, x6_2, x8_2, x9_2, rfl, rfl, rfl, rfl, HA, HK2, HO_7, HB⟩ := hrel
          cases gk with
          | zero => exact absurd HA.out (by simp [psalteryref02_Exp.l0])
          | succ k2 =>
            have H := HA.out
            clear HA
            simp only [psalteryref02_Exp.l0] at H
            by_cases c7 : x9_2 < 8
            · rw [if_pos c7] at H
              have c7b0 : decide (x9_2 < 8) = true := decide_eq_true c7
              clear c7
              by_cases c8 : x4_2 ≥ x8_2
              · rw [if_pos c8] at H
                have c8b0 : decide (x8_2 ≤ x4_2) = true := decide_eq_true c8
                clear c8
                by_cases c9 : 0 ≤ x9_2
                · rw [if_pos c9] at H
                  have c9b0 : decide (0 ≤ x9_2) = true := decide_eq_true c9
                  clear c9
                  by_cases c10 : x9_2 < (t208.length : Int)
                  · rw [if_pos c10] at H
                    have c10b0 : decide (x9_2 < (t208.length : Int)) = true := decide_eq_true c10
                    clear c10
                    have H' := Aside0.mk H
                    clear H
                    obtain ⟨Ao11, co11, eo11⟩ := Kd.R_slice HO_7.out
                    subst eo11
                    have p211 : 0 ≤ (x9_2 : Int) := of_decide_eq_true (by first | (with_reducible assumption) | assumption)
                    have q211 : x9_2 < (t208.length : Int) := of_decide_eq_true (by first | (with_reducible assumption) | assumption)
                    obtain ⟨ad211, e211, hx211_0⟩ := Kd.at_int (Kd.R_reads' HO_7.out).2.2 x9_2 p211 q211
                    cases e211
                    replace p211 := eq_true p211
                    replace q211 := eq_true q211
                    go_wp2
                    go_roundg k2
                    case measure => have := HJ1.out; have := HK2.out; omega
                    case rel => exact ⟨(wrap64 (x4_2 - x8_2)), (IntKind.u64.wrap (Int.tdiv (IntKind.u64.wrap (x6_2 * (rd t208 x9_2))) 1073741824)), (wrap64 (Int.tdiv x8_2 2)), (wrap64 (x9_2 + 1)), (by first | rfl | (simp; done) | (simp [*]; done)), (by first | rfl | (simp; done) | (simp [*]; done)), (by first | rfl | (simp; done) | (simp [*]; done)), (by first | rfl | (simp; done) | (simp [*]; done)), H', ⟨by have := HJ1.out; have := HK2.out; omega⟩, ⟨by (with_reducible repeat (first | apply Kd.R_alloc | apply Kd.R_drewN | apply Kd.R_drew)); exact HO_7.out⟩, ⟨by repeat (first | (with_reducible first | exact HB.out | apply below_alloc | apply pw_below_drewN | apply below_drew1) | exact HB.out)⟩⟩
                  · rw [if_neg c10] at H
                    exact absurd H (by simp)
                · rw [if_neg c9] at H
                  exact absurd H (by simp)
              · rw [if_neg c8] at H
                have c8b0 : decide (x8_2 ≤ x4_2) = false := decide_eq_false c8
                clear c8
                have H' := Aside0.mk H
                clear H
                go_wp2
                go_roundg k2
                case measure => have := HJ1.out; have := HK2.out; omega
                case rel => exact ⟨(x4_2), (x6_2), (wrap64 (Int.tdiv x8_2 2)), (wrap64 (x9_2 + 1)), (by first | rfl | (simp; done) | (simp [*]; done)), (by first | rfl | (simp; done) | (simp [*]; done)), (by first | rfl | (simp; done) | (simp [*]; done)), (by first | rfl | (simp; done) | (simp [*]; done)), H', ⟨by have := HJ1.out; have := HK2.out; omega⟩, ⟨by (with_reducible repeat (first | apply Kd.R_alloc | apply Kd.R_drewN | apply Kd.R_drew)); exact HO_7.out⟩, ⟨by repeat (first | (with_reducible first | exact HB.out | apply below_alloc | apply pw_below_drewN | apply below_drew1) | exact HB.out)⟩⟩
            · rw [if_neg c7] at H
              have c7b0 : decide (x9_2 < 8) = false := decide_eq_false c7
              clear c7
              have H' := Aside0.mk H
              clear H
              go_wp2
              go_loopg [5, 6] k2 (fun kq v5 v6 w' => ∃ (x5_3 : Int) (x6_3 : Int), v5 = .int .i64 x5_3 ∧ v6 = .int .u64 x6_3 ∧ Aside0 (psalteryref02_Exp.l1 kq x5_3 x6_3 = some (r1, r2)) ∧ Aside0 (kq ≤ k2) ∧ Aside0 (Below w.heap.size w w'))
              case atStart => exact ⟨((wrap64 ((wrap64 (Int.tdiv (wrap64 ((wrap64 (a0)) + 4096)) 256)) - 16))), (x6_2), (by first | rfl | (simp; done) | (simp [*]; done)), (by first | rfl | (simp; done) | (simp [*]; done)), H', ⟨Nat.le_refl _⟩, ⟨by repeat (first | (with_reducible first | exact HB.out | apply below_alloc | apply pw_below_drewN | apply below_drew1) | exact HB.out)⟩⟩
              case round =>
                clear H'
                try clear c1
                try clear p2
                try clear q2
                try clear hx2
                try clear c3
                try clear c3b0
                try clear c4
                try clear p6
                try clear c7
                try clear c7b0
                try clear c8
                try clear c8b0
                try clear c9
                try clear c9b0
                try clear c10
                try clear c10b0
                try clear hx211_0
                try clear p2
                try clear p211
                try clear p6
                try clear q211
                obtain ⟨x5_3, x6_3, rfl, rfl, HA, HK3, HB⟩ := hrel
                cases gk with
                | zero => exact absurd HA.out (by simp [psalteryref02_Exp.l1])
                | succ k3 =>
                  have H := HA.out
                  clear HA
                  simp only [psalteryref02_Exp.l1] at H
                  by_cases c12 : x5_3 > 14
                  · rw [if_pos c12] at H
                    have c12b0 : decide (14 < x5_3) = true := decide_eq_true c12
                    clear c12
                    have H' := Aside0.mk H
                    clear H
                    go_wp2
                    go_roundg k3
                    case measure => have := HJ1.out; have := HK2.out; have := HK3.out; omega
                    case rel => exact ⟨(wrap64 (x5_3 - 1)), (IntKind.u64.wrap (x6_3 * 2)), (by first | rfl | (simp; done) | (simp [*]; done)), (by first | rfl | (simp; done) | (simp [*]; done)), H', ⟨by have := HJ1.out; have := HK2.out; have := HK3.out; omega⟩, ⟨by repeat (first | (with_reducible first | exact HB.out | apply below_alloc | apply pw_below_drewN | apply below_drew1) | exact HB.out)⟩⟩
                  · rw [if_neg c12] at H
                    have c12b0 : decide (14 < x5_3) = false := decide_eq_false c12
                    clear c12
                    replace H := Option.bind_eq_some_iff.mp H
                    obtain ⟨t212, A130, H⟩ := H
                    replace H : (some (IntKind.u64.wrap (t212), 0)) = some (r1, r2) := H
                    have A13 := Aside0.mk A130
                    clear A130
                    simp only [Option.some.injEq, Prod.mk.injEq] at H
                    obtain ⟨rfl, rfl⟩ := H
                    go_wp2_with (first | ((with_reducible refine gate_callee (f := 55) rfl ?_); refine goesL_ (some 54) rfl rfl Try.func55 (by kernel_rfl) rfl #[.int .i64 (wrap64 (x6_3)), .int .i64 (wrap64 (14 - x5_3))] rfl (by (try simp only [List.map_toArray, List.map_cons, List.map_nil]); first | done | rfl | (simp only [List.length_drop, List.length_take]; rfl)) ?_; (with_reducible refine (psalteryref01_Round.calls (wrap64 (x6_3)) (wrap64 (14 - x5_3)) t212 _ A13.out).mono ?_); rintro e w14 ⟨rfl, hb⟩; refine ⟨_, rfl, ?_⟩; have n0_ := Aside0.mk (below_step (by repeat (first | (with_reducible first | exact HB.out | apply below_alloc | apply pw_below_drewN | apply below_drew1) | exact HB.out)) hb); clear HB; have HB := n0_; clear n0_; (try clear hb); (try clear hb2); (try clear hk); (try clear hi)))
                    go_ret2
                    exact ⟨by first | rfl | (simp [errW_none, errW_some] <;> rfl) | (simp [*, errW_none, errW_some] <;> rfl), by repeat (first | (with_reducible first | exact HB.out | apply below_alloc | apply pw_below_drewN | apply below_drew1) | exact HB.out)⟩

-- NOT PRINTED: function 42 (psalteryref16_Turn)

-- NOT PRINTED: function 11 (psalterylaw16_ShapeTurns)

end Go.Proofs.Ytblehkoonajofaa.PShape
