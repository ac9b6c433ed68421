/- Contracts of the functions that the law Pitch reaches: each Go function as a Lean function, and that the Go text comes to it. Written by programs (wip/tools), out of the program's own loaded form. -/
import Derived.Test.YtblehkoonajofaaPPitchx0
namespace Go.Proofs.Ytblehkoonajofaa.PPitch
open Go.RowKit Go.Proofs.YtblehkoonajofaaW.PrintWords Go.Proofs.YtblehkoonajofaaW.PrintLast Go.Proofs.YtblehkoonajofaaW.PrintMore
attribute [local go_sem] max2_int min2_int max_two min_two max_three min_three max_four min_four   -- for this text's walks alone
set_option linter.unusedVariables false
set_option linter.unusedSimpArgs false

-- NOT PRINTED: function 14 (pitch_NewHunter)

/-! ### logs_Root: function 84 -/
def logs_Root.l0 : Nat → Int → Int → Int → Option (Int)
  | 0, _, _, _ => none
  | k + 1, x0, x3, x4 => if x4 > 0 then (if (IntKind.u64.wrap ((Go.bits .or .u64 x3 x4) * (Go.bits .or .u64 x3 x4))) ≤ x0 then (logs_Root.l0 k x0 (Go.bits .or .u64 x3 x4) (x4 / 2)) else (logs_Root.l0 k x0 x3 (x4 / 2))) else (some ((x3) % 4294967296))
def logs_Root.f (k : Nat) (a0 : Int) : Option (Int) := logs_Root.l0 k a0 0 2147483648
theorem logs_Root.mono_l : ∀ k, (∀ y0 y1 y2, LeO (logs_Root.l0 k y0 y1 y2) (logs_Root.l0 (k + 1) y0 y1 y2))
  | 0 => fun _ _ _ r h => by simp [logs_Root.l0] at h
  | k + 1 => by
    have ih0 := logs_Root.mono_l k
    · intro y0 y1 y2
      unfold logs_Root.l0
      repeat' first
      | (with_reducible exact ih0 _ _ _)
      | (with_reducible exact LeO.refl _)
      | (with_reducible exact LeO.none _)
      | (with_reducible refine LeO.ite ?_ ?_)
      | (with_reducible refine LeO.bind ?_ (fun _ => ?_))
      | exact ih0 _ _ _
      | exact LeO.none _
      | refine LeO.ite ?_ ?_
      | refine LeO.bind ?_ (fun _ => ?_)
theorem logs_Root.mono : ∀ a0 k, LeO (logs_Root.f k a0) (logs_Root.f (k + 1) a0) := by
  intro a0 k
  have ih0 := logs_Root.mono_l k
  unfold logs_Root.f
  repeat' first
      | (with_reducible exact ih0 _ _ _)
      | (with_reducible exact LeO.refl _)
      | (with_reducible exact LeO.none _)
      | (with_reducible refine LeO.ite ?_ ?_)
      | (with_reducible refine LeO.bind ?_ (fun _ => ?_))
      | exact ih0 _ _ _
      | exact LeO.none _
      | refine LeO.ite ?_ ?_
      | refine LeO.bind ?_ (fun _ => ?_)
set_option maxHeartbeats 8000000 in
set_option maxRecDepth 100000 in
theorem logs_Root.calls (k : Nat) (a0 : Int) (r : Int) (w : World) (h : logs_Root.f k a0 = some r) :
    Calls Try.prog 84 #[.int .u64 a0] w fun e w' => e = .returned (.int .u32 r) ∧ Drawn0 w w' := by
  have H : (logs_Root.l0 k a0 0 2147483648) = some r := h
  clear h
  have H' := Aside0.mk H
  clear H
  go_enter Try.func84, Try.ntmps84
  go_wp2
  go_loopg [3, 4] k (fun kq v3 v4 w' => ∃ (x3_1 : Int) (x4_1 : Int), v3 = .int .u64 x3_1 ∧ v4 = .int .u64 x4_1 ∧ Aside0 (logs_Root.l0 kq a0 x3_1 x4_1 = some r) ∧ Aside0 (kq ≤ k) ∧ Drawn0 w w')
  case atStart => exact ⟨(0), (2147483648), (by first | rfl | (simp; done) | (simp [*]; done)), (by first | rfl | (simp; done) | (simp [*]; done)), H', ⟨Nat.le_refl _⟩, by repeat (first | exact Drawn0.refl _ | apply Drawn0.step)⟩
  case round =>
    clear H'
    obtain ⟨x3_1, x4_1, rfl, rfl, HA, HK1, ⟨m1, rfl⟩⟩ := hrel
    cases gk with
    | zero => exact absurd HA.out (by simp [logs_Root.l0])
    | succ k1 =>
      have H := HA.out
      clear HA
      simp only [logs_Root.l0] at H
      by_cases c2 : x4_1 > 0
      · rw [if_pos c2] at H
        have c2b0 : decide (0 < x4_1) = true := decide_eq_true c2
        clear c2
        by_cases c3 : (IntKind.u64.wrap ((Go.bits .or .u64 x3_1 x4_1) * (Go.bits .or .u64 x3_1 x4_1))) ≤ a0
        · rw [if_pos c3] at H
          have c3b0 : decide ((IntKind.u64.wrap ((Go.bits .or .u64 x3_1 x4_1) * (Go.bits .or .u64 x3_1 x4_1))) ≤ a0) = true := decide_eq_true c3
          clear c3
          have H' := Aside0.mk H
          clear H
          go_wp2
          go_roundg k1
          case measure => have := HK1.out; omega
          case rel => exact ⟨(Go.bits .or .u64 x3_1 x4_1), (x4_1 / 2), (by first | rfl | (simp; done) | (simp [*]; done)), (by first | rfl | (simp; done) | (simp [*]; done)), H', ⟨by have := HK1.out; omega⟩, by repeat (first | exact Drawn0.refl _ | apply Drawn0.step)⟩
        · rw [if_neg c3] at H
          have c3b0 : decide ((IntKind.u64.wrap ((Go.bits .or .u64 x3_1 x4_1) * (Go.bits .or .u64 x3_1 x4_1))) ≤ a0) = false := decide_eq_false c3
          clear c3
          have H' := Aside0.mk H
          clear H
          go_wp2
          go_roundg k1
          case measure => have := HK1.out; omega
          case rel => exact ⟨(x3_1), (x4_1 / 2), (by first | rfl | (simp; done) | (simp [*]; done)), (by first | rfl | (simp; done) | (simp [*]; done)), H', ⟨by have := HK1.out; omega⟩, by repeat (first | exact Drawn0.refl _ | apply Drawn0.step)⟩
      · rw [if_neg c2] at H
        have c2b0 : decide (0 < x4_1) = false := decide_eq_false c2
        clear c2
        obtain rfl := Option.some.inj H
        go_wp2
        go_ret
        exact ⟨by first | rfl | (simp; done) | (simp [*]; done), by repeat (first | exact Drawn0.refl _ | apply Drawn0.step)⟩

/-! ### arr_pitch_strength_29: an array of 3 numbers, read at an index -/
def arr_pitch_strength_29.f (a0 : Int) : Option (Int) := if 0 ≤ a0 then (if a0 < 3 then (some (rd [140, 192, 230] a0)) else (none)) else (none)
theorem arr_pitch_strength_29.run {a0 r : Int} (h : arr_pitch_strength_29.f a0 = some r) (w : World) : (Instr.index 135 (.agg #[.int .i64 140, .int .i64 192, .int .i64 230]) (.int .i64 a0)).run Try.prog w = .ok (.int .i64 r) w := by
  unfold arr_pitch_strength_29.f at h
  by_cases h0 : 0 ≤ a0
  · rw [if_pos h0] at h
    by_cases h1 : a0 < 3
    · rw [if_pos h1] at h
      obtain rfl := Option.some.inj h
      have hc : a0 = 0 ∨ a0 = 1 ∨ a0 = 2 := by omega
      have at0 : ∀ w_ : World, (Instr.index 135 (.agg #[.int .i64 140, .int .i64 192, .int .i64 230]) (.int .i64 0)).run Try.prog w_ = .ok (.int .i64 140) w_ := fun _ => by kernel_rfl
      have at1 : ∀ w_ : World, (Instr.index 135 (.agg #[.int .i64 140, .int .i64 192, .int .i64 230]) (.int .i64 1)).run Try.prog w_ = .ok (.int .i64 192) w_ := fun _ => by kernel_rfl
      have at2 : ∀ w_ : World, (Instr.index 135 (.agg #[.int .i64 140, .int .i64 192, .int .i64 230]) (.int .i64 2)).run Try.prog w_ = .ok (.int .i64 230) w_ := fun _ => by kernel_rfl
      rcases hc with rfl | rfl | rfl
      · exact at0 w
      · exact at1 w
      · exact at2 w
    · rw [if_neg h1] at h; cases h
  · rw [if_neg h0] at h; cases h

/-! ### pitch_strength: function 49 -/
mutual
def pitch_strength.j0 : Nat → Int → Int → Bool → Option (Int)
  | 0, _, _, _ => none
  | k + 1, x0, x7, x24 => if x24 = true then (some 0) else (if x7 = 0 then (none) else (pitch_strength.l0 k (wrap64 (Int.tdiv (wrap64 (x0 * 256)) x7)) 0 0))
def pitch_strength.l0 : Nat → Int → Int → Int → Option (Int)
  | 0, _, _, _ => none
  | k + 1, x8, x9, x30 => if x30 < 3 then ((arr_pitch_strength_29.f x30).bind fun t103 => (if x8 ≥ t103 then (pitch_strength.l0 k x8 (wrap64 (x9 + 1)) (wrap64 (x30 + 1))) else (pitch_strength.l0 k x8 x9 (wrap64 (x30 + 1))))) else (some x9)
end
def pitch_strength.f (k : Nat) (a0 : Int) (a1 : Int) (a2 : Int) : Option (Int) := (logs_Root.f k a1).bind fun t101 => ((logs_Root.f k a2).bind fun t102 => (if a0 ≤ 0 then (pitch_strength.j0 k a0 (wrap64 ((wrap64 (t101)) * (wrap64 (t102)))) true) else (pitch_strength.j0 k a0 (wrap64 ((wrap64 (t101)) * (wrap64 (t102)))) (decide ((wrap64 ((wrap64 (t101)) * (wrap64 (t102)))) ≤ 0)))))
theorem pitch_strength.mono_l : ∀ k, (∀ y0 y1 y2, LeO (pitch_strength.j0 k y0 y1 y2) (pitch_strength.j0 (k + 1) y0 y1 y2)) ∧ (∀ y0 y1 y2, LeO (pitch_strength.l0 k y0 y1 y2) (pitch_strength.l0 (k + 1) y0 y1 y2))
  | 0 => ⟨fun _ _ _ r h => by simp [pitch_strength.j0] at h, fun _ _ _ r h => by simp [pitch_strength.l0] at h⟩
  | k + 1 => by
    obtain ⟨ih0, ih1⟩ := pitch_strength.mono_l k
    refine ⟨?_, ?_⟩
    · intro y0 y1 y2
      unfold pitch_strength.j0
      repeat' first
      | (with_reducible exact ih0 _ _ _)
      | (with_reducible exact ih1 _ _ _)
      | (with_reducible exact logs_Root.mono _ _)
      | (with_reducible exact LeO.refl _)
      | (with_reducible exact LeO.none _)
      | (with_reducible refine LeO.ite ?_ ?_)
      | (with_reducible refine LeO.bind ?_ (fun _ => ?_))
      | exact ih0 _ _ _
      | exact ih1 _ _ _
      | exact logs_Root.mono _ _
      | exact LeO.none _
      | refine LeO.ite ?_ ?_
      | refine LeO.bind ?_ (fun _ => ?_)
    · intro y0 y1 y2
      unfold pitch_strength.l0
      repeat' first
      | (with_reducible exact ih0 _ _ _)
      | (with_reducible exact ih1 _ _ _)
      | (with_reducible exact logs_Root.mono _ _)
      | (with_reducible exact LeO.refl _)
      | (with_reducible exact LeO.none _)
      | (with_reducible refine LeO.ite ?_ ?_)
      | (with_reducible refine LeO.bind ?_ (fun _ => ?_))
      | exact ih0 _ _ _
      | exact ih1 _ _ _
      | exact logs_Root.mono _ _
      | exact LeO.none _
      | refine LeO.ite ?_ ?_
      | refine LeO.bind ?_ (fun _ => ?_)
theorem pitch_strength.mono : ∀ a0 a1 a2 k, LeO (pitch_strength.f k a0 a1 a2) (pitch_strength.f (k + 1) a0 a1 a2) := by
  intro a0 a1 a2 k
  obtain ⟨ih0, ih1⟩ := pitch_strength.mono_l k
  unfold pitch_strength.f
  repeat' first
      | (with_reducible exact ih0 _ _ _)
      | (with_reducible exact ih1 _ _ _)
      | (with_reducible exact logs_Root.mono _ _)
      | (with_reducible exact LeO.refl _)
      | (with_reducible exact LeO.none _)
      | (with_reducible refine LeO.ite ?_ ?_)
      | (with_reducible refine LeO.bind ?_ (fun _ => ?_))
      | exact ih0 _ _ _
      | exact ih1 _ _ _
      | exact logs_Root.mono _ _
      | exact LeO.none _
      | refine LeO.ite ?_ ?_
      | refine LeO.bind ?_ (fun _ => ?_)
set_option maxHeartbeats 8000000 in
set_option maxRecDepth 100000 in
theorem pitch_strength.calls (k : Nat) (a0 : Int) (a1 : Int) (a2 : Int) (r : Int) (w : World) (h : pitch_strength.f k a0 a1 a2 = some r) :
    Calls Try.prog 49 #[.int .i64 a0, .int .u64 a1, .int .u64 a2] w fun e w' => e = .returned (.int .i64 r) ∧ Drawn0 w w' := by
  have H : ((logs_Root.f k a1).bind fun t101 => ((logs_Root.f k a2).bind fun t102 => (if a0 ≤ 0 then (pitch_strength.j0 k a0 (wrap64 ((wrap64 (t101)) * (wrap64 (t102)))) true) else (pitch_strength.j0 k a0 (wrap64 ((wrap64 (t101)) * (wrap64 (t102)))) (decide ((wrap64 ((wrap64 (t101)) * (wrap64 (t102)))) ≤ 0)))))) = some r := h
  clear h
  replace H := Option.bind_eq_some_iff.mp H
  obtain ⟨t101, A40, H⟩ := H
  replace H : ((logs_Root.f k a2).bind fun t102 => (if a0 ≤ 0 then (pitch_strength.j0 k a0 (wrap64 ((wrap64 (t101)) * (wrap64 (t102)))) true) else (pitch_strength.j0 k a0 (wrap64 ((wrap64 (t101)) * (wrap64 (t102)))) (decide ((wrap64 ((wrap64 (t101)) * (wrap64 (t102)))) ≤ 0))))) = some r := H
  have A4 := Aside0.mk A40
  clear A40
  replace H := Option.bind_eq_some_iff.mp H
  obtain ⟨t102, A50, H⟩ := H
  replace H : (if a0 ≤ 0 then (pitch_strength.j0 k a0 (wrap64 ((wrap64 (t101)) * (wrap64 (t102)))) true) else (pitch_strength.j0 k a0 (wrap64 ((wrap64 (t101)) * (wrap64 (t102)))) (decide ((wrap64 ((wrap64 (t101)) * (wrap64 (t102)))) ≤ 0)))) = some r := H
  have A5 := Aside0.mk A50
  clear A50
  have HC6 := Aside0.mk H
  clear H
  go_enter Try.func49, Try.ntmps49
  go_upto_region 2 with (first | ((with_reducible refine gate_callee (f := 84) rfl ?_); refine goesL_ (some 13) rfl rfl Try.func84 (by kernel_rfl) rfl #[.int .u64 a1] rfl (by (try simp only [List.map_toArray, List.map_cons, List.map_nil]); first | done | rfl | (simp only [List.length_drop, List.length_take]; rfl)) ?_; (with_reducible refine (logs_Root.calls k a1 t101 _ A4.out).mono ?_); rintro e w' ⟨rfl, ⟨nd, rfl⟩⟩; refine ⟨_, rfl, ?_⟩) | ((with_reducible refine gate_callee (f := 84) rfl ?_); refine goesL_ (some 16) rfl rfl Try.func84 (by kernel_rfl) rfl #[.int .u64 a2] rfl (by (try simp only [List.map_toArray, List.map_cons, List.map_nil]); first | done | rfl | (simp only [List.length_drop, List.length_take]; rfl)) ?_; (with_reducible refine (logs_Root.calls k a2 t102 _ A5.out).mono ?_); rintro e w' ⟨rfl, ⟨nd, rfl⟩⟩; refine ⟨_, rfl, ?_⟩))
  (try simp only [Act.put, List.setIfInBounds_toArray, List.set_cons_zero, List.set_cons_succ])
  go_cut [24] (fun v24 wc => ∃ (kq : Nat) (x24_5 : Bool), v24 = .bool x24_5 ∧ Aside0 (pitch_strength.j0 kq a0 (wrap64 ((wrap64 (t101)) * (wrap64 (t102)))) x24_5 = some r) ∧ Aside0 (kq ≤ k) ∧ Drawn0 w wc)
  case first =>
    have H := HC6.out
    clear HC6
    by_cases c7 : a0 ≤ 0
    · rw [if_pos c7] at H
      have c7b0 : decide (a0 ≤ 0) = true := decide_eq_true c7
      clear c7
      (first | rw [c7b0] | (simp only [i64_w, i32_w]; rw [c7b0]) | skip)
      have H' := Aside0.mk H
      clear H
      go_wp2
      go_meet
      case rel => exact ⟨_, (true), (by first | rfl | (simp; done) | (simp [*]; done)), H', ⟨by first | omega | exact Nat.le_refl _⟩, by repeat (first | exact Drawn0.refl _ | apply Drawn0.step)⟩
    · rw [if_neg c7] at H
      have c7b0 : decide (a0 ≤ 0) = false := decide_eq_false c7
      clear c7
      (first | rw [c7b0] | (simp only [i64_w, i32_w]; rw [c7b0]) | skip)
      have H' := Aside0.mk H
      clear H
      go_wp2
      go_meet
      case rel => exact ⟨_, (decide ((wrap64 ((wrap64 (t101)) * (wrap64 (t102)))) ≤ 0)), (by first | rfl | (simp; done) | (simp [*]; done)), H', ⟨by first | omega | exact Nat.le_refl _⟩, by repeat (first | exact Drawn0.refl _ | apply Drawn0.step)⟩
  case rest =>
    clear HC6
    try clear p2
    try clear c4
    try clear p6
    try clear c7
    try clear c7b0
    obtain ⟨kq, x24_5, rfl, HA, HJ5, ⟨mc5, rfl⟩⟩ := hcut
    cases kq with
    | zero => exact absurd HA.out (by simp [pitch_strength.j0])
    | succ kj5 =>
      have H := HA.out
      clear HA
      simp only [pitch_strength.j0] at H
      by_cases c8 : x24_5 = true
      · subst c8
        have H1 : (some 0) = some r := by rw [if_pos rfl] at H; exact H
        clear H
        have H := H1
        clear H1
        obtain rfl := Option.some.inj H
        go_wp2
        go_ret
        exact ⟨by first | rfl | (simp; done) | (simp [*]; done), by repeat (first | exact Drawn0.refl _ | apply Drawn0.step)⟩
      · replace c8 := Bool.eq_false_iff.mpr c8
        subst c8
        have H1 : (if (wrap64 ((wrap64 (t101)) * (wrap64 (t102)))) = 0 then (none) else (pitch_strength.l0 kj5 (wrap64 (Int.tdiv (wrap64 (a0 * 256)) (wrap64 ((wrap64 (t101)) * (wrap64 (t102)))))) 0 0)) = some r := by rw [if_neg (show ¬ (false = true) by decide)] at H; exact H
        clear H
        have H := H1
        clear H1
        by_cases c9 : (wrap64 ((wrap64 (t101)) * (wrap64 (t102)))) = 0
        · rw [if_pos c9] at H
          exact absurd H (by simp)
        · rw [if_neg c9] at H
          have c9b0 : ((wrap64 ((wrap64 (t101)) * (wrap64 (t102)))) == 0) = false := beq_eq_false_iff_ne.mpr c9
          have c9b1 : ((wrap64 ((wrap64 (t101)) * (wrap64 (t102)))) != 0) = true := bne_iff_ne.mpr c9
          have H' := Aside0.mk H
          clear H
          go_wp2
          go_loopg [9, 30] kj5 (fun kq v9 v30 w' => ∃ (x9_2 : Int) (x30_2 : Int), v9 = .int .i64 x9_2 ∧ v30 = .int .i64 x30_2 ∧ Aside0 (pitch_strength.l0 kq (wrap64 (Int.tdiv (wrap64 (a0 * 256)) (wrap64 ((wrap64 (t101)) * (wrap64 (t102)))))) x9_2 x30_2 = some r) ∧ Aside0 (kq ≤ kj5) ∧ Drawn0 w w')
          case atStart => exact ⟨(0), (0), (by first | rfl | (simp; done) | (simp [*]; done)), (by first | rfl | (simp; done) | (simp [*]; done)), H', ⟨Nat.le_refl _⟩, by repeat (first | exact Drawn0.refl _ | apply Drawn0.step)⟩
          case round =>
            clear H'
            try clear p2
            try clear c4
            try clear c5
            try clear p6
            try clear c7
            try clear c7b0
            try clear c8
            try clear c9
            try clear c9b0
            try clear c9b1
            try clear p2
            try clear p6
            obtain ⟨x9_2, x30_2, rfl, rfl, HA, HK2, ⟨m2, rfl⟩⟩ := hrel
            cases gk with
            | zero => exact absurd HA.out (by simp [pitch_strength.l0])
            | succ k2 =>
              have H := HA.out
              clear HA
              simp only [pitch_strength.l0] at H
              by_cases c10 : x30_2 < 3
              · rw [if_pos c10] at H
                have c10b0 : decide (x30_2 < 3) = true := decide_eq_true c10
                clear c10
                replace H := Option.bind_eq_some_iff.mp H
                obtain ⟨t103, A110, H⟩ := H
                replace H : (if (wrap64 (Int.tdiv (wrap64 (a0 * 256)) (wrap64 ((wrap64 (t101)) * (wrap64 (t102)))))) ≥ t103 then (pitch_strength.l0 k2 (wrap64 (Int.tdiv (wrap64 (a0 * 256)) (wrap64 ((wrap64 (t101)) * (wrap64 (t102)))))) (wrap64 (x9_2 + 1)) (wrap64 (x30_2 + 1))) else (pitch_strength.l0 k2 (wrap64 (Int.tdiv (wrap64 (a0 * 256)) (wrap64 ((wrap64 (t101)) * (wrap64 (t102)))))) x9_2 (wrap64 (x30_2 + 1)))) = some r := H
                have A11 := Aside0.mk A110
                have IA11 := fun w_ => arr_pitch_strength_29.run A110 w_
                clear A110
                by_cases c12 : (wrap64 (Int.tdiv (wrap64 (a0 * 256)) (wrap64 ((wrap64 (t101)) * (wrap64 (t102)))))) ≥ t103
                · rw [if_pos c12] at H
                  have c12b0 : decide (t103 ≤ (wrap64 (Int.tdiv (wrap64 (a0 * 256)) (wrap64 ((wrap64 (t101)) * (wrap64 (t102))))))) = true := decide_eq_true c12
                  clear c12
                  have H' := Aside0.mk H
                  clear H
                  go_wp2_with (first | ((with_reducible refine gate_callee (f := 129) rfl ?_); refine goesL_ (some 32) rfl rfl Try.func0 (by kernel_rfl) rfl #[.int .i64 x30_2] rfl (by (try simp only [List.map_toArray, List.map_cons, List.map_nil]); first | done | rfl | (simp only [List.length_drop, List.length_take]; rfl)) ?_; (with_reducible refine (arr_pitch_strength_29.calls x30_2 t103 _ A11.out).mono ?_); rintro e w' ⟨rfl, ⟨nd, rfl⟩⟩; refine ⟨_, rfl, ?_⟩))
                  go_roundg k2
                  case measure => have := HJ5.out; have := HK2.out; omega
                  case rel => exact ⟨(wrap64 (x9_2 + 1)), (wrap64 (x30_2 + 1)), (by first | rfl | (simp; done) | (simp [*]; done)), (by first | rfl | (simp; done) | (simp [*]; done)), H', ⟨by have := HJ5.out; have := HK2.out; omega⟩, by repeat (first | exact Drawn0.refl _ | apply Drawn0.step)⟩
                · rw [if_neg c12] at H
                  have c12b0 : decide (t103 ≤ (wrap64 (Int.tdiv (wrap64 (a0 * 256)) (wrap64 ((wrap64 (t101)) * (wrap64 (t102))))))) = false := decide_eq_false c12
                  clear c12
                  have H' := Aside0.mk H
                  clear H
                  go_wp2_with (first | ((with_reducible refine gate_callee (f := 129) rfl ?_); refine goesL_ (some 32) rfl rfl Try.func0 (by kernel_rfl) rfl #[.int .i64 x30_2] rfl (by (try simp only [List.map_toArray, List.map_cons, List.map_nil]); first | done | rfl | (simp only [List.length_drop, List.length_take]; rfl)) ?_; (with_reducible refine (arr_pitch_strength_29.calls x30_2 t103 _ A11.out).mono ?_); rintro e w' ⟨rfl, ⟨nd, rfl⟩⟩; refine ⟨_, rfl, ?_⟩))
                  go_roundg k2
                  case measure => have := HJ5.out; have := HK2.out; omega
                  case rel => exact ⟨(x9_2), (wrap64 (x30_2 + 1)), (by first | rfl | (simp; done) | (simp [*]; done)), (by first | rfl | (simp; done) | (simp [*]; done)), H', ⟨by have := HJ5.out; have := HK2.out; omega⟩, by repeat (first | exact Drawn0.refl _ | apply Drawn0.step)⟩
              · rw [if_neg c10] at H
                have c10b0 : decide (x30_2 < 3) = false := decide_eq_false c10
                clear c10
                obtain rfl := Option.some.inj H
                go_wp2
                go_ret
                exact ⟨by first | rfl | (simp; done) | (simp [*]; done), by repeat (first | exact Drawn0.refl _ | apply Drawn0.step)⟩

-- NOT PRINTED: function 15 (pitch_Hunter_Feed)

-- NOT PRINTED: function 13 (psalterylaw18_alive)

/-! ### psalteryref18_at: function 51 -/
def psalteryref18_at.f (l0 : List Int) (a1 : Int) : Option (Int) := if a1 < 0 then (some 0) else (if 0 ≤ a1 then (if a1 < (l0.length : Int) then (some (rd l0 a1)) else (none)) else (none))
set_option maxHeartbeats 8000000 in
set_option maxRecDepth 100000 in
theorem psalteryref18_at.calls (A0 : Option Addr) (c0 : Nat) (l0 : List Int) (a1 : Int) (r : Int) (w : World) (hr0 : Kd.C (Kd.int .i64) w A0 l0.length l0) (hc0 : l0.length ≤ c0) (h : psalteryref18_at.f l0 a1 = some r) :
    Calls Try.prog 51 #[.slice A0 l0.length c0, .int .i64 a1] w fun e w' => e = .returned (.int .i64 r) ∧ Drawn0 w w' := by
  have HR0 := Aside0.mk hr0
  have HC0 := Aside0.mk hc0
  clear hr0 hc0
  have H : (if a1 < 0 then (some 0) else (if 0 ≤ a1 then (if a1 < (l0.length : Int) then (some (rd l0 a1)) else (none)) else (none))) = some r := h
  clear h
  by_cases c3 : a1 < 0
  · rw [if_pos c3] at H
    have c3b0 : decide (a1 < 0) = true := decide_eq_true c3
    clear c3
    obtain rfl := Option.some.inj H
    go_enter Try.func51, Try.ntmps51
    go_wp2
    go_ret
    exact ⟨by first | rfl | (simp; done) | (simp [*]; done), by repeat (first | exact Drawn0.refl _ | apply Drawn0.step)⟩
  · rw [if_neg c3] at H
    have c3b0 : decide (a1 < 0) = false := decide_eq_false c3
    clear c3
    by_cases c4 : 0 ≤ a1
    · rw [if_pos c4] at H
      have c4b0 : decide (0 ≤ a1) = true := decide_eq_true c4
      clear c4
      by_cases c5 : a1 < (l0.length : Int)
      · rw [if_pos c5] at H
        have c5b0 : decide (a1 < (l0.length : Int)) = true := decide_eq_true c5
        clear c5
        obtain rfl := Option.some.inj H
        have p104 : 0 ≤ (a1 : Int) := of_decide_eq_true (by first | (with_reducible assumption) | assumption)
        have q104 : a1 < (l0.length : Int) := of_decide_eq_true (by first | (with_reducible assumption) | assumption)
        obtain ⟨ad104, e104, hx104_0⟩ := Kd.at_int HR0.out a1 p104 q104
        cases e104
        replace p104 := eq_true p104
        replace q104 := eq_true q104
        go_enter Try.func51, Try.ntmps51
        go_wp2
        go_ret
        exact ⟨by first | rfl | (simp; done) | (simp [*]; done), by repeat (first | exact Drawn0.refl _ | apply Drawn0.step)⟩
      · rw [if_neg c5] at H
        exact absurd H (by simp)
    · rw [if_neg c4] at H
      exact absurd H (by simp)

/-! ### psalteryref02_Root: function 52 -/
def psalteryref02_Root.l0 : Nat → Int → Int → Int → Option (Int)
  | 0, _, _, _ => none
  | k + 1, x0, x3, x4 => if (IntKind.u64.wrap (x4 - x3)) > 1 then (if (IntKind.u64.wrap (Int.tdiv (IntKind.u64.wrap (x3 + x4)) 2)) = 0 then (none) else (if (IntKind.u64.wrap (Int.tdiv (IntKind.u64.wrap (x3 + x4)) 2)) ≤ (IntKind.u64.wrap (Int.tdiv x0 (IntKind.u64.wrap (Int.tdiv (IntKind.u64.wrap (x3 + x4)) 2)))) then (psalteryref02_Root.l0 k x0 (IntKind.u64.wrap (Int.tdiv (IntKind.u64.wrap (x3 + x4)) 2)) x4) else (psalteryref02_Root.l0 k x0 x3 (IntKind.u64.wrap (Int.tdiv (IntKind.u64.wrap (x3 + x4)) 2))))) else (some ((x3) % 4294967296))
def psalteryref02_Root.f (k : Nat) (a0 : Int) : Option (Int) := psalteryref02_Root.l0 k a0 0 4294967296
theorem psalteryref02_Root.mono_l : ∀ k, (∀ y0 y1 y2, LeO (psalteryref02_Root.l0 k y0 y1 y2) (psalteryref02_Root.l0 (k + 1) y0 y1 y2))
  | 0 => fun _ _ _ r h => by simp [psalteryref02_Root.l0] at h
  | k + 1 => by
    have ih0 := psalteryref02_Root.mono_l k
    · intro y0 y1 y2
      unfold psalteryref02_Root.l0
      repeat' first
      | (with_reducible exact ih0 _ _ _)
      | (with_reducible exact LeO.refl _)
      | (with_reducible exact LeO.none _)
      | (with_reducible refine LeO.ite ?_ ?_)
      | (with_reducible refine LeO.bind ?_ (fun _ => ?_))
      | exact ih0 _ _ _
      | exact LeO.none _
      | refine LeO.ite ?_ ?_
      | refine LeO.bind ?_ (fun _ => ?_)
theorem psalteryref02_Root.mono : ∀ a0 k, LeO (psalteryref02_Root.f k a0) (psalteryref02_Root.f (k + 1) a0) := by
  intro a0 k
  have ih0 := psalteryref02_Root.mono_l k
  unfold psalteryref02_Root.f
  repeat' first
      | (with_reducible exact ih0 _ _ _)
      | (with_reducible exact LeO.refl _)
      | (with_reducible exact LeO.none _)
      | (with_reducible refine LeO.ite ?_ ?_)
      | (with_reducible refine LeO.bind ?_ (fun _ => ?_))
      | exact ih0 _ _ _
      | exact LeO.none _
      | refine LeO.ite ?_ ?_
      | refine LeO.bind ?_ (fun _ => ?_)
set_option maxHeartbeats 8000000 in
set_option maxRecDepth 100000 in
theorem psalteryref02_Root.calls (k : Nat) (a0 : Int) (r : Int) (w : World) (h : psalteryref02_Root.f k a0 = some r) :
    Calls Try.prog 52 #[.int .u64 a0] w fun e w' => e = .returned (.int .u32 r) ∧ Drawn0 w w' := by
  have H : (psalteryref02_Root.l0 k a0 0 4294967296) = some r := h
  clear h
  have H' := Aside0.mk H
  clear H
  go_enter Try.func52, Try.ntmps52
  go_wp2
  go_loopg [3, 4] k (fun kq v3 v4 w' => ∃ (x3_1 : Int) (x4_1 : Int), v3 = .int .u64 x3_1 ∧ v4 = .int .u64 x4_1 ∧ Aside0 (psalteryref02_Root.l0 kq a0 x3_1 x4_1 = some r) ∧ Aside0 (kq ≤ k) ∧ Drawn0 w w')
  case atStart => exact ⟨(0), (4294967296), (by first | rfl | (simp; done) | (simp [*]; done)), (by first | rfl | (simp; done) | (simp [*]; done)), H', ⟨Nat.le_refl _⟩, by repeat (first | exact Drawn0.refl _ | apply Drawn0.step)⟩
  case round =>
    clear H'
    obtain ⟨x3_1, x4_1, rfl, rfl, HA, HK1, ⟨m1, rfl⟩⟩ := hrel
    cases gk with
    | zero => exact absurd HA.out (by simp [psalteryref02_Root.l0])
    | succ k1 =>
      have H := HA.out
      clear HA
      simp only [psalteryref02_Root.l0] at H
      by_cases c2 : (IntKind.u64.wrap (x4_1 - x3_1)) > 1
      · rw [if_pos c2] at H
        have c2b0 : decide (1 < (IntKind.u64.wrap (x4_1 - x3_1))) = true := decide_eq_true c2
        clear c2
        by_cases c3 : (IntKind.u64.wrap (Int.tdiv (IntKind.u64.wrap (x3_1 + x4_1)) 2)) = 0
        · rw [if_pos c3] at H
          exact absurd H (by simp)
        · rw [if_neg c3] at H
          have c3b0 : ((IntKind.u64.wrap (Int.tdiv (IntKind.u64.wrap (x3_1 + x4_1)) 2)) == 0) = false := beq_eq_false_iff_ne.mpr c3
          have c3b1 : ((IntKind.u64.wrap (Int.tdiv (IntKind.u64.wrap (x3_1 + x4_1)) 2)) != 0) = true := bne_iff_ne.mpr c3
          by_cases c4 : (IntKind.u64.wrap (Int.tdiv (IntKind.u64.wrap (x3_1 + x4_1)) 2)) ≤ (IntKind.u64.wrap (Int.tdiv a0 (IntKind.u64.wrap (Int.tdiv (IntKind.u64.wrap (x3_1 + x4_1)) 2))))
          · rw [if_pos c4] at H
            have c4b0 : decide ((IntKind.u64.wrap (Int.tdiv (IntKind.u64.wrap (x3_1 + x4_1)) 2)) ≤ (IntKind.u64.wrap (Int.tdiv a0 (IntKind.u64.wrap (Int.tdiv (IntKind.u64.wrap (x3_1 + x4_1)) 2))))) = true := decide_eq_true c4
            clear c4
            have H' := Aside0.mk H
            clear H
            go_wp2
            go_roundg k1
            case measure => have := HK1.out; omega
            case rel => exact ⟨(IntKind.u64.wrap (Int.tdiv (IntKind.u64.wrap (x3_1 + x4_1)) 2)), (x4_1), (by first | rfl | (simp; done) | (simp [*]; done)), (by first | rfl | (simp; done) | (simp [*]; done)), H', ⟨by have := HK1.out; omega⟩, by repeat (first | exact Drawn0.refl _ | apply Drawn0.step)⟩
          · rw [if_neg c4] at H
            have c4b0 : decide ((IntKind.u64.wrap (Int.tdiv (IntKind.u64.wrap (x3_1 + x4_1)) 2)) ≤ (IntKind.u64.wrap (Int.tdiv a0 (IntKind.u64.wrap (Int.tdiv (IntKind.u64.wrap (x3_1 + x4_1)) 2))))) = false := decide_eq_false c4
            clear c4
            have H' := Aside0.mk H
            clear H
            go_wp2
            go_roundg k1
            case measure => have := HK1.out; omega
            case rel => exact ⟨(x3_1), (IntKind.u64.wrap (Int.tdiv (IntKind.u64.wrap (x3_1 + x4_1)) 2)), (by first | rfl | (simp; done) | (simp [*]; done)), (by first | rfl | (simp; done) | (simp [*]; done)), H', ⟨by have := HK1.out; omega⟩, by repeat (first | exact Drawn0.refl _ | apply Drawn0.step)⟩
      · rw [if_neg c2] at H
        have c2b0 : decide (1 < (IntKind.u64.wrap (x4_1 - x3_1))) = false := decide_eq_false c2
        clear c2
        obtain rfl := Option.some.inj H
        go_wp2
        go_ret
        exact ⟨by first | rfl | (simp; done) | (simp [*]; done), by repeat (first | exact Drawn0.refl _ | apply Drawn0.step)⟩

end Go.Proofs.Ytblehkoonajofaa.PPitch
