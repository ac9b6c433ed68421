/- Contracts of the functions that the law Tuner reaches: each Go function as a Lean function, and that the Go text comes to it. Written by programs (wip/tools), out of the program's own loaded form. -/
import Derived.Test.YtiiebkfeodmefaaDoorPTunerx0
import Derived.Test.YtiiebkfeodmefaaDoorPTunerx1b
namespace Go.Proofs.YtiiebkfeodmefaaDoor.PTuner
open Go.RowKit Go.Proofs.YtiiebkfeodmefaaDoorW.PrintWords Go.Proofs.YtiiebkfeodmefaaDoorW.PrintLast Go.Proofs.YtiiebkfeodmefaaDoorW.PrintMore
attribute [local go_sem] max2_int min2_int max_two min_two max_three min_three max_four min_four   -- for this text's walks alone
set_option linter.unusedVariables false
set_option linter.unusedSimpArgs false

/-! ### wave_sine: function 56 -/
def wave_sine.l0 : Nat → Int → Int → Int → Int → Int → Option (Int)
  | 0, _, _, _, _, _ => none
  | k + 1, x5, x6, x7, x8, x23 => if x23 < 4 then ((arr_wave_sine_22.f x23).bind fun t120 => (wave_sine.l0 k x5 x6 x7 (IntKind.u64.wrap (t120 - ((IntKind.u64.wrap (x8 * x7)) / 1073741824))) (wrap64 (x23 + 1)))) else ((fix_Round.f (wrap64 ((IntKind.u64.wrap (x8 * x5)) / 1073741824)) 15).bind fun t121 => ((fix_Clip.f t121 0 32767).bind fun t122 => (if x6 ≥ 2 then (some (IntKind.i16.wrap (wrap64 (-t122)))) else (some (IntKind.i16.wrap (t122))))))
def wave_sine.f (k : Nat) (a0 : Int) (a1 : Int) : Option (Int) := (wave_height.f a0 a1).bind fun bt118 => (wave_sine.l0 k bt118.1 bt118.2 ((IntKind.u64.wrap (bt118.1 * bt118.1)) / 1073741824) 172272 0)
theorem wave_sine.mono_l : ∀ k, (∀ y0 y1 y2 y3 y4, LeO (wave_sine.l0 k y0 y1 y2 y3 y4) (wave_sine.l0 (k + 1) y0 y1 y2 y3 y4))
  | 0 => fun _ _ _ _ _ r h => by simp [wave_sine.l0] at h
  | k + 1 => by
    have ih0 := wave_sine.mono_l k
    · intro y0 y1 y2 y3 y4
      unfold wave_sine.l0
      repeat' first
      | (with_reducible exact ih0 _ _ _ _ _)
      | (with_reducible exact LeO.refl _)
      | (with_reducible exact LeO.none _)
      | (with_reducible refine LeO.ite ?_ ?_)
      | (with_reducible refine LeO.bind ?_ (fun _ => ?_))
      | exact ih0 _ _ _ _ _
      | exact LeO.none _
      | refine LeO.ite ?_ ?_
      | refine LeO.bind ?_ (fun _ => ?_)
theorem wave_sine.mono : ∀ a0 a1 k, LeO (wave_sine.f k a0 a1) (wave_sine.f (k + 1) a0 a1) := by
  intro a0 a1 k
  have ih0 := wave_sine.mono_l k
  unfold wave_sine.f
  repeat' first
      | (with_reducible exact ih0 _ _ _ _ _)
      | (with_reducible exact LeO.refl _)
      | (with_reducible exact LeO.none _)
      | (with_reducible refine LeO.ite ?_ ?_)
      | (with_reducible refine LeO.bind ?_ (fun _ => ?_))
      | exact ih0 _ _ _ _ _
      | exact LeO.none _
      | refine LeO.ite ?_ ?_
      | refine LeO.bind ?_ (fun _ => ?_)
set_option maxHeartbeats 8000000 in
set_option maxRecDepth 100000 in
theorem wave_sine.calls (k : Nat) (a0 : Int) (a1 : Int) (r : Int) (w : World) (h : wave_sine.f k a0 a1 = some r) :
    Calls Tryd.prog 56 #[.int .i64 a0, .int .i64 a1] w fun e w' => e = .returned (.int .i16 r) ∧ Drawn0 w w' := by
  have H : ((wave_height.f a0 a1).bind fun bt118 => (wave_sine.l0 k bt118.1 bt118.2 ((IntKind.u64.wrap (bt118.1 * bt118.1)) / 1073741824) 172272 0)) = some r := h
  clear h
  replace H := Option.bind_eq_some_iff.mp H
  obtain ⟨⟨t118, t119⟩, A30, H⟩ := H
  replace H : (wave_sine.l0 k t118 t119 ((IntKind.u64.wrap (t118 * t118)) / 1073741824) 172272 0) = some r := H
  have A3 := Aside0.mk A30
  clear A30
  have H' := Aside0.mk H
  clear H
  go_enter Tryd.func56, Tryd.ntmps56
  go_wp2_with (first | ((with_reducible refine gate_callee (f := 70) rfl ?_); refine goesL_ (some 15) rfl rfl Tryd.func70 (by kernel_rfl) rfl #[.int .i64 a0, .int .i64 a1] rfl (by (try simp only [List.map_toArray, List.map_cons, List.map_nil]); first | done | rfl | (simp only [List.length_drop, List.length_take]; rfl)) ?_; (with_reducible refine (wave_height.calls a0 a1 t118 t119 _ A3.out).mono ?_); rintro e w' ⟨rfl, ⟨nd, rfl⟩⟩; refine ⟨_, rfl, ?_⟩))
  go_loopg [8, 23] k (fun kq v8 v23 w' => ∃ (x8_1 : Int) (x23_1 : Int), v8 = .int .u64 x8_1 ∧ v23 = .int .i64 x23_1 ∧ Aside0 (wave_sine.l0 kq t118 t119 ((IntKind.u64.wrap (t118 * t118)) / 1073741824) x8_1 x23_1 = some r) ∧ Aside0 (kq ≤ k) ∧ Drawn0 w w')
  case atStart => exact ⟨(172272), (0), (by first | rfl | (simp; done) | (simp [*]; done)), (by first | rfl | (simp; done) | (simp [*]; done)), H', ⟨Nat.le_refl _⟩, by repeat (first | exact Drawn0.refl _ | apply Drawn0.step)⟩
  case round =>
    clear H'
    try clear p2
    obtain ⟨x8_1, x23_1, rfl, rfl, HA, HK1, ⟨m1, rfl⟩⟩ := hrel
    cases gk with
    | zero => exact absurd HA.out (by simp [wave_sine.l0])
    | succ k1 =>
      have H := HA.out
      clear HA
      simp only [wave_sine.l0] at H
      by_cases c4 : x23_1 < 4
      · rw [if_pos c4] at H
        have c4b0 : decide (x23_1 < 4) = true := decide_eq_true c4
        clear c4
        replace H := Option.bind_eq_some_iff.mp H
        obtain ⟨t120, A50, H⟩ := H
        replace H : (wave_sine.l0 k1 t118 t119 ((IntKind.u64.wrap (t118 * t118)) / 1073741824) (IntKind.u64.wrap (t120 - ((IntKind.u64.wrap (x8_1 * ((IntKind.u64.wrap (t118 * t118)) / 1073741824))) / 1073741824))) (wrap64 (x23_1 + 1))) = some r := H
        have A5 := Aside0.mk A50
        have IA5 := fun w_ => arr_wave_sine_22.run A50 w_
        clear A50
        have H' := Aside0.mk H
        clear H
        go_wp2_with (first | ((with_reducible refine gate_callee (f := 131) rfl ?_); refine goesL_ (some 25) rfl rfl Tryd.func0 (by kernel_rfl) rfl #[.int .i64 x23_1] rfl (by (try simp only [List.map_toArray, List.map_cons, List.map_nil]); first | done | rfl | (simp only [List.length_drop, List.length_take]; rfl)) ?_; (with_reducible refine (arr_wave_sine_22.calls x23_1 t120 _ A5.out).mono ?_); rintro e w' ⟨rfl, ⟨nd, rfl⟩⟩; refine ⟨_, rfl, ?_⟩))
        go_roundg k1
        case measure => have := HK1.out; omega
        case rel => exact ⟨(IntKind.u64.wrap (t120 - ((IntKind.u64.wrap (x8_1 * ((IntKind.u64.wrap (t118 * t118)) / 1073741824))) / 1073741824))), (wrap64 (x23_1 + 1)), (by first | rfl | (simp; done) | (simp [*]; done)), (by first | rfl | (simp; done) | (simp [*]; done)), H', ⟨by have := HK1.out; omega⟩, by repeat (first | exact Drawn0.refl _ | apply Drawn0.step)⟩
      · rw [if_neg c4] at H
        have c4b0 : decide (x23_1 < 4) = false := decide_eq_false c4
        clear c4
        replace H := Option.bind_eq_some_iff.mp H
        obtain ⟨t121, A60, H⟩ := H
        replace H : ((fix_Clip.f t121 0 32767).bind fun t122 => (if t119 ≥ 2 then (some (IntKind.i16.wrap (wrap64 (-t122)))) else (some (IntKind.i16.wrap (t122))))) = some r := H
        have A6 := Aside0.mk A60
        clear A60
        replace H := Option.bind_eq_some_iff.mp H
        obtain ⟨t122, A70, H⟩ := H
        replace H : (if t119 ≥ 2 then (some (IntKind.i16.wrap (wrap64 (-t122)))) else (some (IntKind.i16.wrap (t122)))) = some r := H
        have A7 := Aside0.mk A70
        clear A70
        by_cases c8 : t119 ≥ 2
        · rw [if_pos c8] at H
          have c8b0 : decide (2 ≤ t119) = true := decide_eq_true c8
          clear c8
          obtain rfl := Option.some.inj H
          go_wp2_with (first | ((with_reducible refine gate_callee (f := 41) rfl ?_); refine goesL_ (some 38) rfl rfl Tryd.func41 (by kernel_rfl) rfl #[.int .i64 (wrap64 ((IntKind.u64.wrap (x8_1 * t118)) / 1073741824)), .int .i64 15] rfl (by (try simp only [List.map_toArray, List.map_cons, List.map_nil]); first | done | rfl | (simp only [List.length_drop, List.length_take]; rfl)) ?_; (with_reducible refine (fix_Round.calls (wrap64 ((IntKind.u64.wrap (x8_1 * t118)) / 1073741824)) 15 t121 _ A6.out).mono ?_); rintro e w' ⟨rfl, ⟨nd, rfl⟩⟩; refine ⟨_, rfl, ?_⟩) | ((with_reducible refine gate_callee (f := 71) rfl ?_); refine goesL_ (some 39) rfl rfl Tryd.func71 (by kernel_rfl) rfl #[.int .i64 t121, .int .i64 0, .int .i64 32767] rfl (by (try simp only [List.map_toArray, List.map_cons, List.map_nil]); first | done | rfl | (simp only [List.length_drop, List.length_take]; rfl)) ?_; (with_reducible refine (fix_Clip.calls t121 0 32767 t122 _ A7.out).mono ?_); rintro e w' ⟨rfl, ⟨nd, rfl⟩⟩; refine ⟨_, rfl, ?_⟩))
          go_ret
          exact ⟨by first | rfl | (simp; done) | (simp [*]; done), by repeat (first | exact Drawn0.refl _ | apply Drawn0.step)⟩
        · rw [if_neg c8] at H
          have c8b0 : decide (2 ≤ t119) = false := decide_eq_false c8
          clear c8
          obtain rfl := Option.some.inj H
          go_wp2_with (first | ((with_reducible refine gate_callee (f := 41) rfl ?_); refine goesL_ (some 38) rfl rfl Tryd.func41 (by kernel_rfl) rfl #[.int .i64 (wrap64 ((IntKind.u64.wrap (x8_1 * t118)) / 1073741824)), .int .i64 15] rfl (by (try simp only [List.map_toArray, List.map_cons, List.map_nil]); first | done | rfl | (simp only [List.length_drop, List.length_take]; rfl)) ?_; (with_reducible refine (fix_Round.calls (wrap64 ((IntKind.u64.wrap (x8_1 * t118)) / 1073741824)) 15 t121 _ A6.out).mono ?_); rintro e w' ⟨rfl, ⟨nd, rfl⟩⟩; refine ⟨_, rfl, ?_⟩) | ((with_reducible refine gate_callee (f := 71) rfl ?_); refine goesL_ (some 39) rfl rfl Tryd.func71 (by kernel_rfl) rfl #[.int .i64 t121, .int .i64 0, .int .i64 32767] rfl (by (try simp only [List.map_toArray, List.map_cons, List.map_nil]); first | done | rfl | (simp only [List.length_drop, List.length_take]; rfl)) ?_; (with_reducible refine (fix_Clip.calls t121 0 32767 t122 _ A7.out).mono ?_); rintro e w' ⟨rfl, ⟨nd, rfl⟩⟩; refine ⟨_, rfl, ?_⟩))
          go_ret
          exact ⟨by first | rfl | (simp; done) | (simp [*]; done), by repeat (first | exact Drawn0.refl _ | apply Drawn0.step)⟩

/-! ### wave_Cosine: function 39 -/
def wave_Cosine.j0 : Nat → Int → Int → Bool → Option (Int × Int)
  | 0, _, _, _ => none
  | k + 1, x0, x1, x11 => if x11 = true then (some (0, 1)) else ((wave_modulo.f x0 x1).bind fun t123 => ((wave_sine.f k (wrap64 ((wrap64 (4 * t123)) + x1)) (wrap64 (4 * x1))).bind fun t124 => (some (t124, 0))))
def wave_Cosine.f (k : Nat) (a0 : Int) (a1 : Int) : Option (Int × Int) := if a1 < 1 then (wave_Cosine.j0 k a0 a1 true) else (wave_Cosine.j0 k a0 a1 (decide (a1 > 1048576)))
theorem wave_Cosine.mono_l : ∀ k, (∀ y0 y1 y2, LeO (wave_Cosine.j0 k y0 y1 y2) (wave_Cosine.j0 (k + 1) y0 y1 y2))
  | 0 => fun _ _ _ r h => by simp [wave_Cosine.j0] at h
  | k + 1 => by
    have ih0 := wave_Cosine.mono_l k
    · intro y0 y1 y2
      unfold wave_Cosine.j0
      repeat' first
      | (with_reducible exact ih0 _ _ _)
      | (with_reducible exact wave_sine.mono _ _ _)
      | (with_reducible exact LeO.refl _)
      | (with_reducible exact LeO.none _)
      | (with_reducible refine LeO.ite ?_ ?_)
      | (with_reducible refine LeO.bind ?_ (fun _ => ?_))
      | exact ih0 _ _ _
      | exact wave_sine.mono _ _ _
      | exact LeO.none _
      | refine LeO.ite ?_ ?_
      | refine LeO.bind ?_ (fun _ => ?_)
theorem wave_Cosine.mono : ∀ a0 a1 k, LeO (wave_Cosine.f k a0 a1) (wave_Cosine.f (k + 1) a0 a1) := by
  intro a0 a1 k
  have ih0 := wave_Cosine.mono_l k
  unfold wave_Cosine.f
  repeat' first
      | (with_reducible exact ih0 _ _ _)
      | (with_reducible exact wave_sine.mono _ _ _)
      | (with_reducible exact LeO.refl _)
      | (with_reducible exact LeO.none _)
      | (with_reducible refine LeO.ite ?_ ?_)
      | (with_reducible refine LeO.bind ?_ (fun _ => ?_))
      | exact ih0 _ _ _
      | exact wave_sine.mono _ _ _
      | exact LeO.none _
      | refine LeO.ite ?_ ?_
      | refine LeO.bind ?_ (fun _ => ?_)
set_option maxHeartbeats 8000000 in
set_option maxRecDepth 100000 in
theorem wave_Cosine.calls (k : Nat) (a0 : Int) (a1 : Int) (r1 : Int) (r2 : Int) (w : World) (h : wave_Cosine.f k a0 a1 = some (r1, r2)) :
    Calls Tryd.prog 39 #[.int .i64 a0, .int .i64 a1] w fun e w' => e = .returned (.tuple #[.int .i16 r1, .int .i64 r2]) ∧ Drawn0 w w' := by
  have H : (if a1 < 1 then (wave_Cosine.j0 k a0 a1 true) else (wave_Cosine.j0 k a0 a1 (decide (a1 > 1048576)))) = some (r1, r2) := h
  clear h
  have HC3 := Aside0.mk H
  clear H
  go_enter Tryd.func39, Tryd.ntmps39
  go_upto_region 1 with (fail)
  go_cut [11] (fun v11 wc => ∃ (kq : Nat) (x11_2 : Bool), v11 = .bool x11_2 ∧ Aside0 (wave_Cosine.j0 kq a0 a1 x11_2 = some (r1, r2)) ∧ Aside0 (kq ≤ k) ∧ Drawn0 w wc)
  case first =>
    have H := HC3.out
    clear HC3
    by_cases c4 : a1 < 1
    · rw [if_pos c4] at H
      have c4b0 : decide (a1 < 1) = true := decide_eq_true c4
      clear c4
      (first | rw [c4b0] | (simp only [i64_w, i32_w]; rw [c4b0]) | skip)
      have H' := Aside0.mk H
      clear H
      go_wp2
      go_meet
      case rel => exact ⟨_, (true), (by first | rfl | (simp; done) | (simp [*]; done)), H', ⟨by first | omega | exact Nat.le_refl _⟩, by repeat (first | exact Drawn0.refl _ | apply Drawn0.step)⟩
    · rw [if_neg c4] at H
      have c4b0 : decide (a1 < 1) = false := decide_eq_false c4
      clear c4
      (first | rw [c4b0] | (simp only [i64_w, i32_w]; rw [c4b0]) | skip)
      have H' := Aside0.mk H
      clear H
      go_wp2
      go_meet
      case rel => exact ⟨_, (decide (a1 > 1048576)), (by first | rfl | (simp; done) | (simp [*]; done)), H', ⟨by first | omega | exact Nat.le_refl _⟩, by repeat (first | exact Drawn0.refl _ | apply Drawn0.step)⟩
  case rest =>
    clear HC3
    try clear p2
    try clear c3
    try clear c4
    try clear c4b0
    obtain ⟨kq, x11_2, rfl, HA, HJ2, ⟨mc2, rfl⟩⟩ := hcut
    cases kq with
    | zero => exact absurd HA.out (by simp [wave_Cosine.j0])
    | succ kj2 =>
      have H := HA.out
      clear HA
      simp only [wave_Cosine.j0] at H
      by_cases c5 : x11_2 = true
      · subst c5
        have H1 : (some (0, 1)) = some (r1, r2) := by rw [if_pos rfl] at H; exact H
        clear H
        have H := H1
        clear H1
        simp only [Option.some.injEq, Prod.mk.injEq] at H
        obtain ⟨rfl, rfl⟩ := H
        go_wp2
        go_ret2
        exact ⟨by first | rfl | (simp; done) | (simp [*]; done), by repeat (first | exact Drawn0.refl _ | apply Drawn0.step)⟩
      · replace c5 := Bool.eq_false_iff.mpr c5
        subst c5
        have H1 : ((wave_modulo.f a0 a1).bind fun t123 => ((wave_sine.f kj2 (wrap64 ((wrap64 (4 * t123)) + a1)) (wrap64 (4 * a1))).bind fun t124 => (some (t124, 0)))) = some (r1, r2) := by rw [if_neg (show ¬ (false = true) by decide)] at H; exact H
        clear H
        have H := H1
        clear H1
        replace H := Option.bind_eq_some_iff.mp H
        obtain ⟨t123, A60, H⟩ := H
        replace H : ((wave_sine.f kj2 (wrap64 ((wrap64 (4 * t123)) + a1)) (wrap64 (4 * a1))).bind fun t124 => (some (t124, 0))) = some (r1, r2) := H
        have A6 := Aside0.mk A60
        clear A60
        replace H := Option.bind_eq_some_iff.mp H
        obtain ⟨t124, A70, H⟩ := H
        replace H : (some (t124, 0)) = some (r1, r2) := H
        have A7 := Aside0.mk A70
        clear A70
        simp only [Option.some.injEq, Prod.mk.injEq] at H
        obtain ⟨rfl, rfl⟩ := H
        go_wp2_with (first | ((with_reducible refine gate_callee (f := 57) rfl ?_); refine goesL_ (some 14) rfl rfl Tryd.func57 (by kernel_rfl) rfl #[.int .i64 a0, .int .i64 a1] rfl (by (try simp only [List.map_toArray, List.map_cons, List.map_nil]); first | done | rfl | (simp only [List.length_drop, List.length_take]; rfl)) ?_; (with_reducible refine (wave_modulo.calls a0 a1 t123 _ A6.out).mono ?_); rintro e w' ⟨rfl, ⟨nd, rfl⟩⟩; refine ⟨_, rfl, ?_⟩) | ((with_reducible refine gate_callee (f := 56) rfl ?_); refine goesL_ (some 20) rfl rfl Tryd.func56 (by kernel_rfl) rfl #[.int .i64 (wrap64 ((wrap64 (4 * t123)) + a1)), .int .i64 (wrap64 (4 * a1))] rfl (by (try simp only [List.map_toArray, List.map_cons, List.map_nil]); first | done | rfl | (simp only [List.length_drop, List.length_take]; rfl)) ?_; (with_reducible refine (wave_sine.calls kj2 (wrap64 ((wrap64 (4 * t123)) + a1)) (wrap64 (4 * a1)) t124 _ A7.out).mono ?_); rintro e w' ⟨rfl, ⟨nd, rfl⟩⟩; refine ⟨_, rfl, ?_⟩))
        go_ret2
        exact ⟨by first | rfl | (simp; done) | (simp [*]; done), by repeat (first | exact Drawn0.refl _ | apply Drawn0.step)⟩

/-! ### wave_Sine: function 40 -/
def wave_Sine.f (k : Nat) (a0 : Int) (a1 : Int) : Option (Int × Int) := if a1 < 1 then (some (0, 1)) else (if a1 > 1048576 then (some (0, 1)) else ((wave_sine.f k a0 a1).bind fun t125 => (some (t125, 0))))
theorem wave_Sine.mono : ∀ a0 a1 k, LeO (wave_Sine.f k a0 a1) (wave_Sine.f (k + 1) a0 a1) := by
  intro a0 a1 k
  unfold wave_Sine.f
  repeat' first
      | (with_reducible exact wave_sine.mono _ _ _)
      | (with_reducible exact LeO.refl _)
      | (with_reducible exact LeO.none _)
      | (with_reducible refine LeO.ite ?_ ?_)
      | (with_reducible refine LeO.bind ?_ (fun _ => ?_))
      | exact wave_sine.mono _ _ _
      | exact LeO.none _
      | refine LeO.ite ?_ ?_
      | refine LeO.bind ?_ (fun _ => ?_)
set_option maxHeartbeats 8000000 in
set_option maxRecDepth 100000 in
theorem wave_Sine.calls (k : Nat) (a0 : Int) (a1 : Int) (r1 : Int) (r2 : Int) (w : World) (h : wave_Sine.f k a0 a1 = some (r1, r2)) :
    Calls Tryd.prog 40 #[.int .i64 a0, .int .i64 a1] w fun e w' => e = .returned (.tuple #[.int .i16 r1, .int .i64 r2]) ∧ Drawn0 w w' := by
  have H : (if a1 < 1 then (some (0, 1)) else (if a1 > 1048576 then (some (0, 1)) else ((wave_sine.f k a0 a1).bind fun t125 => (some (t125, 0))))) = some (r1, r2) := h
  clear h
  by_cases c3 : a1 < 1
  · rw [if_pos c3] at H
    have c3b0 : decide (a1 < 1) = true := decide_eq_true c3
    clear c3
    simp only [Option.some.injEq, Prod.mk.injEq] at H
    obtain ⟨rfl, rfl⟩ := H
    go_enter Tryd.func40, Tryd.ntmps40
    go_wp2
    go_ret2
    exact ⟨by first | rfl | (simp; done) | (simp [*]; done), by repeat (first | exact Drawn0.refl _ | apply Drawn0.step)⟩
  · rw [if_neg c3] at H
    have c3b0 : decide (a1 < 1) = false := decide_eq_false c3
    clear c3
    by_cases c4 : a1 > 1048576
    · rw [if_pos c4] at H
      have c4b0 : decide (1048576 < a1) = true := decide_eq_true c4
      clear c4
      simp only [Option.some.injEq, Prod.mk.injEq] at H
      obtain ⟨rfl, rfl⟩ := H
      go_enter Tryd.func40, Tryd.ntmps40
      go_wp2
      go_ret2
      exact ⟨by first | rfl | (simp; done) | (simp [*]; done), by repeat (first | exact Drawn0.refl _ | apply Drawn0.step)⟩
    · rw [if_neg c4] at H
      have c4b0 : decide (1048576 < a1) = false := decide_eq_false c4
      clear c4
      replace H := Option.bind_eq_some_iff.mp H
      obtain ⟨t125, A50, H⟩ := H
      replace H : (some (t125, 0)) = some (r1, r2) := H
      have A5 := Aside0.mk A50
      clear A50
      simp only [Option.some.injEq, Prod.mk.injEq] at H
      obtain ⟨rfl, rfl⟩ := H
      go_enter Tryd.func40, Tryd.ntmps40
      go_wp2_with (first | ((with_reducible refine gate_callee (f := 56) rfl ?_); refine goesL_ (some 14) rfl rfl Tryd.func56 (by kernel_rfl) rfl #[.int .i64 a0, .int .i64 a1] rfl (by (try simp only [List.map_toArray, List.map_cons, List.map_nil]); first | done | rfl | (simp only [List.length_drop, List.length_take]; rfl)) ?_; (with_reducible refine (wave_sine.calls k a0 a1 t125 _ A5.out).mono ?_); rintro e w' ⟨rfl, ⟨nd, rfl⟩⟩; refine ⟨_, rfl, ?_⟩))
      go_ret2
      exact ⟨by first | rfl | (simp; done) | (simp [*]; done), by repeat (first | exact Drawn0.refl _ | apply Drawn0.step)⟩

/-! ### tuner_Parts: function 17 -/
def tuner_Parts.l0 : Nat → Int → Int → Int → Int → List Int → Int → Int → Option (Int × Int × Int)
  | 0, _, _, _, _, _, _, _ => none
  | k + 1, x1, x2, x6, x7, x23, x24, x25 => if x25 < x24 then (if 0 ≤ x25 then (if x25 < (x23.length : Int) then ((wave_Cosine.f k (wrap64 (x25 * x1)) x2).bind fun bt128 => ((wave_Sine.f k (wrap64 (x25 * x1)) x2).bind fun bt130 => (tuner_Parts.l0 k x1 x2 (wrap64 (x6 + (wrap64 ((wrap64 (rd x23 x25)) * (wrap64 (bt128.1)))))) (wrap64 (x7 + (wrap64 ((wrap64 (rd x23 x25)) * (wrap64 (bt130.1)))))) x23 x24 (wrap64 (x25 + 1))))) else (none)) else (none)) else ((fix_Round.f x6 15).bind fun t132 => ((fix_Round.f x7 15).bind fun t133 => (some (t132, t133, 0))))
def tuner_Parts.f (k : Nat) (l0 : List Int) (a1 : Int) (a2 : Int) : Option (Int × Int × Int) := (tuner_may.f l0 a1 a2).bind fun t126 => (if t126 = 0 then (tuner_Parts.l0 k a1 a2 0 0 l0 (l0.length : Int) 0) else (some (0, 0, t126)))
theorem tuner_Parts.mono_l : ∀ k, (∀ y0 y1 y2 y3 y4 y5 y6, LeO (tuner_Parts.l0 k y0 y1 y2 y3 y4 y5 y6) (tuner_Parts.l0 (k + 1) y0 y1 y2 y3 y4 y5 y6))
  | 0 => fun _ _ _ _ _ _ _ r h => by simp [tuner_Parts.l0] at h
  | k + 1 => by
    have ih0 := tuner_Parts.mono_l k
    · intro y0 y1 y2 y3 y4 y5 y6
      unfold tuner_Parts.l0
      repeat' first
      | (with_reducible exact ih0 _ _ _ _ _ _ _)
      | (with_reducible exact wave_Cosine.mono _ _ _)
      | (with_reducible exact wave_Sine.mono _ _ _)
      | (with_reducible exact LeO.refl _)
      | (with_reducible exact LeO.none _)
      | (with_reducible refine LeO.ite ?_ ?_)
      | (with_reducible refine LeO.bind ?_ (fun _ => ?_))
      | exact ih0 _ _ _ _ _ _ _
      | exact wave_Cosine.mono _ _ _
      | exact wave_Sine.mono _ _ _
      | exact LeO.none _
      | refine LeO.ite ?_ ?_
      | refine LeO.bind ?_ (fun _ => ?_)
theorem tuner_Parts.mono : ∀ a0 a1 a2 k, LeO (tuner_Parts.f k a0 a1 a2) (tuner_Parts.f (k + 1) a0 a1 a2) := by
  intro a0 a1 a2 k
  have ih0 := tuner_Parts.mono_l k
  unfold tuner_Parts.f
  repeat' first
      | (with_reducible exact ih0 _ _ _ _ _ _ _)
      | (with_reducible exact wave_Cosine.mono _ _ _)
      | (with_reducible exact wave_Sine.mono _ _ _)
      | (with_reducible exact LeO.refl _)
      | (with_reducible exact LeO.none _)
      | (with_reducible refine LeO.ite ?_ ?_)
      | (with_reducible refine LeO.bind ?_ (fun _ => ?_))
      | exact ih0 _ _ _ _ _ _ _
      | exact wave_Cosine.mono _ _ _
      | exact wave_Sine.mono _ _ _
      | exact LeO.none _
      | refine LeO.ite ?_ ?_
      | refine LeO.bind ?_ (fun _ => ?_)
set_option maxHeartbeats 8000000 in
set_option maxRecDepth 100000 in
theorem tuner_Parts.calls (k : Nat) (A0 : Option Addr) (c0 : Nat) (l0 : List Int) (a1 : Int) (a2 : Int) (r1 : Int) (r2 : Int) (r3 : Int) (w : World) (hr0 : Kd.C (Kd.int .i16) w A0 l0.length l0) (hc0 : l0.length ≤ c0) (h : tuner_Parts.f k l0 a1 a2 = some (r1, r2, r3)) :
    Calls Tryd.prog 17 #[.slice A0 l0.length c0, .int .i64 a1, .int .i64 a2] w fun e w' => e = .returned (.tuple #[.int .i64 r1, .int .i64 r2, .int .i64 r3]) ∧ Drawn0 w w' := by
  have HR0 := Aside0.mk hr0
  have HC0 := Aside0.mk hc0
  clear hr0 hc0
  have H : ((tuner_may.f l0 a1 a2).bind fun t126 => (if t126 = 0 then (tuner_Parts.l0 k a1 a2 0 0 l0 (l0.length : Int) 0) else (some (0, 0, t126)))) = some (r1, r2, r3) := h
  clear h
  replace H := Option.bind_eq_some_iff.mp H
  obtain ⟨t126, A40, H⟩ := H
  replace H : (if t126 = 0 then (tuner_Parts.l0 k a1 a2 0 0 l0 (l0.length : Int) 0) else (some (0, 0, t126))) = some (r1, r2, r3) := H
  have A4 := Aside0.mk A40
  clear A40
  by_cases c5 : t126 = 0
  · rw [if_pos c5] at H
    have c5b0 : (t126 == 0) = true := beq_iff_eq.mpr c5
    have c5b1 : (t126 != 0) = false := bne_eq_false_iff_eq.mpr c5
    clear c5
    have H' := Aside0.mk H
    clear H
    go_enter Tryd.func17, Tryd.ntmps17
    go_wp2_with (first | ((with_reducible refine gate_callee (f := 38) rfl ?_); refine goesL_ (some 19) rfl rfl Tryd.func38 (by kernel_rfl) rfl #[.slice A0 l0.length c0, .int .i64 a1, .int .i64 a2] rfl (by (try simp only [List.map_toArray, List.map_cons, List.map_nil]); first | done | rfl | (simp only [List.length_drop, List.length_take]; rfl)) ?_; (with_reducible refine (tuner_may.calls _ _ l0 a1 a2 t126 _ ?side1 ?side2 A4.out).mono ?_); (case side1 => repeat (first | exact HR0.out | (with_reducible refine Kd.C_alloc ?_ _) | (with_reducible refine Kd.C_drewN ?_ _) | (with_reducible refine Kd.C_drew ?_))); (case side2 => exact HC0.out); rintro e w' ⟨rfl, ⟨nd, rfl⟩⟩; refine ⟨_, rfl, ?_⟩))
    go_loopg [6, 7, 25] k (fun kq v6 v7 v25 w' => ∃ (x6_1 : Int) (x7_1 : Int) (x25_1 : Int), v6 = .int .i64 x6_1 ∧ v7 = .int .i64 x7_1 ∧ v25 = .int .i64 x25_1 ∧ Aside0 (tuner_Parts.l0 kq a1 a2 x6_1 x7_1 l0 (l0.length : Int) x25_1 = some (r1, r2, r3)) ∧ Aside0 (kq ≤ k) ∧ Drawn0 w w')
    case atStart => exact ⟨(0), (0), (0), (by first | rfl | (simp; done) | (simp [*]; done)), (by first | rfl | (simp; done) | (simp [*]; done)), (by first | rfl | (simp; done) | (simp [*]; done)), H', ⟨Nat.le_refl _⟩, by repeat (first | exact Drawn0.refl _ | apply Drawn0.step)⟩
    case round =>
      clear H'
      try clear c1
      try clear p2
      try clear c3
      try clear c5
      try clear c5b0
      try clear c5b1
      obtain ⟨x6_1, x7_1, x25_1, rfl, rfl, rfl, HA, HK1, ⟨m1, rfl⟩⟩ := hrel
      cases gk with
      | zero => exact absurd HA.out (by simp [tuner_Parts.l0])
      | succ k1 =>
        have H := HA.out
        clear HA
        simp only [tuner_Parts.l0] at H
        by_cases c6 : x25_1 < (l0.length : Int)
        · rw [if_pos c6] at H
          have c6b0 : decide (x25_1 < (l0.length : Int)) = true := decide_eq_true c6
          clear c6
          by_cases c7 : 0 ≤ x25_1
          · rw [if_pos c7] at H
            have c7b0 : decide (0 ≤ x25_1) = true := decide_eq_true c7
            clear c7
            by_cases c8 : x25_1 < (l0.length : Int)
            · rw [if_pos c8] at H
              have c8b0 : decide (x25_1 < (l0.length : Int)) = true := decide_eq_true c8
              clear c8
              replace H := Option.bind_eq_some_iff.mp H
              obtain ⟨⟨t128, t129⟩, A90, H⟩ := H
              replace H : ((wave_Sine.f k1 (wrap64 (x25_1 * a1)) a2).bind fun bt130 => (tuner_Parts.l0 k1 a1 a2 (wrap64 (x6_1 + (wrap64 ((wrap64 (rd l0 x25_1)) * (wrap64 (t128)))))) (wrap64 (x7_1 + (wrap64 ((wrap64 (rd l0 x25_1)) * (wrap64 (bt130.1)))))) l0 (l0.length : Int) (wrap64 (x25_1 + 1)))) = some (r1, r2, r3) := H
              have A9 := Aside0.mk A90
              clear A90
              replace H := Option.bind_eq_some_iff.mp H
              obtain ⟨⟨t130, t131⟩, A100, H⟩ := H
              replace H : (tuner_Parts.l0 k1 a1 a2 (wrap64 (x6_1 + (wrap64 ((wrap64 (rd l0 x25_1)) * (wrap64 (t128)))))) (wrap64 (x7_1 + (wrap64 ((wrap64 (rd l0 x25_1)) * (wrap64 (t130)))))) l0 (l0.length : Int) (wrap64 (x25_1 + 1))) = some (r1, r2, r3) := H
              have A10 := Aside0.mk A100
              clear A100
              have H' := Aside0.mk H
              clear H
              have p127 : 0 ≤ (x25_1 : Int) := of_decide_eq_true (by first | (with_reducible assumption) | assumption)
              have q127 : x25_1 < (l0.length : Int) := of_decide_eq_true (by first | (with_reducible assumption) | assumption)
              obtain ⟨ad127, e127, hx127_0⟩ := Kd.at_int HR0.out x25_1 p127 q127
              cases e127
              replace p127 := eq_true p127
              replace q127 := eq_true q127
              go_wp2_with (first | ((with_reducible refine gate_callee (f := 39) rfl ?_); refine goesL_ (some 35) rfl rfl Tryd.func39 (by kernel_rfl) rfl #[.int .i64 (wrap64 (x25_1 * a1)), .int .i64 a2] rfl (by (try simp only [List.map_toArray, List.map_cons, List.map_nil]); first | done | rfl | (simp only [List.length_drop, List.length_take]; rfl)) ?_; (with_reducible refine (wave_Cosine.calls k1 (wrap64 (x25_1 * a1)) a2 t128 t129 _ A9.out).mono ?_); rintro e w' ⟨rfl, ⟨nd, rfl⟩⟩; refine ⟨_, rfl, ?_⟩) | ((with_reducible refine gate_callee (f := 40) rfl ?_); refine goesL_ (some 43) rfl rfl Tryd.func40 (by kernel_rfl) rfl #[.int .i64 (wrap64 (x25_1 * a1)), .int .i64 a2] rfl (by (try simp only [List.map_toArray, List.map_cons, List.map_nil]); first | done | rfl | (simp only [List.length_drop, List.length_take]; rfl)) ?_; (with_reducible refine (wave_Sine.calls k1 (wrap64 (x25_1 * a1)) a2 t130 t131 _ A10.out).mono ?_); rintro e w' ⟨rfl, ⟨nd, rfl⟩⟩; refine ⟨_, rfl, ?_⟩))
              go_roundg k1
              case measure => have := HK1.out; omega
              case rel => exact ⟨(wrap64 (x6_1 + (wrap64 ((wrap64 (rd l0 x25_1)) * (wrap64 (t128)))))), (wrap64 (x7_1 + (wrap64 ((wrap64 (rd l0 x25_1)) * (wrap64 (t130)))))), (wrap64 (x25_1 + 1)), (by first | rfl | (simp; done) | (simp [*]; done)), (by first | rfl | (simp; done) | (simp [*]; done)), (by first | rfl | (simp; done) | (simp [*]; done)), H', ⟨by have := HK1.out; omega⟩, by repeat (first | exact Drawn0.refl _ | apply Drawn0.step)⟩
            · rw [if_neg c8] at H
              exact absurd H (by simp)
          · rw [if_neg c7] at H
            exact absurd H (by simp)
        · rw [if_neg c6] at H
          have c6b0 : decide (x25_1 < (l0.length : Int)) = false := decide_eq_false c6
          clear c6
          replace H := Option.bind_eq_some_iff.mp H
          obtain ⟨t132, A110, H⟩ := H
          replace H : ((fix_Round.f x7_1 15).bind fun t133 => (some (t132, t133, 0))) = some (r1, r2, r3) := H
          have A11 := Aside0.mk A110
          clear A110
          replace H := Option.bind_eq_some_iff.mp H
          obtain ⟨t133, A120, H⟩ := H
          replace H : (some (t132, t133, 0)) = some (r1, r2, r3) := H
          have A12 := Aside0.mk A120
          clear A120
          simp only [Option.some.injEq, Prod.mk.injEq] at H
          obtain ⟨rfl, rfl, rfl⟩ := H
          go_wp2_with (first | ((with_reducible refine gate_callee (f := 41) rfl ?_); refine goesL_ (some 62) rfl rfl Tryd.func41 (by kernel_rfl) rfl #[.int .i64 x6_1, .int .i64 15] rfl (by (try simp only [List.map_toArray, List.map_cons, List.map_nil]); first | done | rfl | (simp only [List.length_drop, List.length_take]; rfl)) ?_; (with_reducible refine (fix_Round.calls x6_1 15 t132 _ A11.out).mono ?_); rintro e w' ⟨rfl, ⟨nd, rfl⟩⟩; refine ⟨_, rfl, ?_⟩) | ((with_reducible refine gate_callee (f := 41) rfl ?_); refine goesL_ (some 64) rfl rfl Tryd.func41 (by kernel_rfl) rfl #[.int .i64 x7_1, .int .i64 15] rfl (by (try simp only [List.map_toArray, List.map_cons, List.map_nil]); first | done | rfl | (simp only [List.length_drop, List.length_take]; rfl)) ?_; (with_reducible refine (fix_Round.calls x7_1 15 t133 _ A12.out).mono ?_); rintro e w' ⟨rfl, ⟨nd, rfl⟩⟩; refine ⟨_, rfl, ?_⟩))
          go_ret3
          exact ⟨by first | rfl | (simp; done) | (simp [*]; done), by repeat (first | exact Drawn0.refl _ | apply Drawn0.step)⟩
  · rw [if_neg c5] at H
    have c5b0 : (t126 == 0) = false := beq_eq_false_iff_ne.mpr c5
    have c5b1 : (t126 != 0) = true := bne_iff_ne.mpr c5
    simp only [Option.some.injEq, Prod.mk.injEq] at H
    obtain ⟨rfl, rfl, rfl⟩ := H
    go_enter Tryd.func17, Tryd.ntmps17
    go_wp2_with (first | ((with_reducible refine gate_callee (f := 38) rfl ?_); refine goesL_ (some 19) rfl rfl Tryd.func38 (by kernel_rfl) rfl #[.slice A0 l0.length c0, .int .i64 a1, .int .i64 a2] rfl (by (try simp only [List.map_toArray, List.map_cons, List.map_nil]); first | done | rfl | (simp only [List.length_drop, List.length_take]; rfl)) ?_; (with_reducible refine (tuner_may.calls _ _ l0 a1 a2 t126 _ ?side1 ?side2 A4.out).mono ?_); (case side1 => repeat (first | exact HR0.out | (with_reducible refine Kd.C_alloc ?_ _) | (with_reducible refine Kd.C_drewN ?_ _) | (with_reducible refine Kd.C_drew ?_))); (case side2 => exact HC0.out); rintro e w' ⟨rfl, ⟨nd, rfl⟩⟩; refine ⟨_, rfl, ?_⟩))
    go_ret3
    exact ⟨by first | rfl | (simp; done) | (simp [*]; done), by repeat (first | exact Drawn0.refl _ | apply Drawn0.step)⟩

/-! ### tuner_Power: function 16 -/
def tuner_Power.f (k : Nat) (l0 : List Int) (a1 : Int) (a2 : Int) : Option (Int × Int) := (tuner_Parts.f k l0 a1 a2).bind fun bt134 => (some (IntKind.u64.wrap (wrap64 ((wrap64 (bt134.1 * bt134.1)) + (wrap64 (bt134.2.1 * bt134.2.1)))), bt134.2.2))
theorem tuner_Power.mono : ∀ a0 a1 a2 k, LeO (tuner_Power.f k a0 a1 a2) (tuner_Power.f (k + 1) a0 a1 a2) := by
  intro a0 a1 a2 k
  unfold tuner_Power.f
  repeat' first
      | (with_reducible exact tuner_Parts.mono _ _ _ _)
      | (with_reducible exact LeO.refl _)
      | (with_reducible exact LeO.none _)
      | (with_reducible refine LeO.ite ?_ ?_)
      | (with_reducible refine LeO.bind ?_ (fun _ => ?_))
      | exact tuner_Parts.mono _ _ _ _
      | exact LeO.none _
      | refine LeO.ite ?_ ?_
      | refine LeO.bind ?_ (fun _ => ?_)
set_option maxHeartbeats 8000000 in
set_option maxRecDepth 100000 in
theorem tuner_Power.calls (k : Nat) (A0 : Option Addr) (c0 : Nat) (l0 : List Int) (a1 : Int) (a2 : Int) (r1 : Int) (r2 : Int) (w : World) (hr0 : Kd.C (Kd.int .i16) w A0 l0.length l0) (hc0 : l0.length ≤ c0) (h : tuner_Power.f k l0 a1 a2 = some (r1, r2)) :
    Calls Tryd.prog 16 #[.slice A0 l0.length c0, .int .i64 a1, .int .i64 a2] w fun e w' => e = .returned (.tuple #[.int .u64 r1, .int .i64 r2]) ∧ Drawn0 w w' := by
  have HR0 := Aside0.mk hr0
  have HC0 := Aside0.mk hc0
  clear hr0 hc0
  have H : ((tuner_Parts.f k l0 a1 a2).bind fun bt134 => (some (IntKind.u64.wrap (wrap64 ((wrap64 (bt134.1 * bt134.1)) + (wrap64 (bt134.2.1 * bt134.2.1)))), bt134.2.2))) = some (r1, r2) := h
  clear h
  replace H := Option.bind_eq_some_iff.mp H
  obtain ⟨⟨t134, t135, t136⟩, A40, H⟩ := H
  replace H : (some (IntKind.u64.wrap (wrap64 ((wrap64 (t134 * t134)) + (wrap64 (t135 * t135)))), t136)) = some (r1, r2) := H
  have A4 := Aside0.mk A40
  clear A40
  simp only [Option.some.injEq, Prod.mk.injEq] at H
  obtain ⟨rfl, rfl⟩ := H
  go_enter Tryd.func16, Tryd.ntmps16
  go_wp2_with (first | ((with_reducible refine gate_callee (f := 17) rfl ?_); refine goesL_ (some 15) rfl rfl Tryd.func17 (by kernel_rfl) rfl #[.slice A0 l0.length c0, .int .i64 a1, .int .i64 a2] rfl (by (try simp only [List.map_toArray, List.map_cons, List.map_nil]); first | done | rfl | (simp only [List.length_drop, List.length_take]; rfl)) ?_; (with_reducible refine (tuner_Parts.calls k _ _ l0 a1 a2 t134 t135 t136 _ ?side1 ?side2 A4.out).mono ?_); (case side1 => repeat (first | exact HR0.out | (with_reducible refine Kd.C_alloc ?_ _) | (with_reducible refine Kd.C_drewN ?_ _) | (with_reducible refine Kd.C_drew ?_))); (case side2 => exact HC0.out); rintro e w' ⟨rfl, ⟨nd, rfl⟩⟩; refine ⟨_, rfl, ?_⟩))
  go_ret2
  exact ⟨by first | rfl | (simp; done) | (simp [*]; done), by repeat (first | exact Drawn0.refl _ | apply Drawn0.step)⟩

/-! ### psalteryref37_May: function 18 -/
def psalteryref37_May.f (l0 : List Int) (a1 : Int) (a2 : Int) : Option (Int) := if (l0.length : Int) > 4096 then (some 2) else (if a2 < 1 then (some 1) else (if a2 > 4096 then (some 1) else (if a1 < 0 then (some 1) else (if a1 > a2 then (some 1) else (some 0)))))
set_option maxHeartbeats 8000000 in
set_option maxRecDepth 100000 in
theorem psalteryref37_May.calls (A0 : Option Addr) (c0 : Nat) (l0 : List Int) (a1 : Int) (a2 : Int) (r : Int) (w : World) (hr0 : Kd.C (Kd.int .i16) w A0 l0.length l0) (hc0 : l0.length ≤ c0) (h : psalteryref37_May.f l0 a1 a2 = some r) :
    Calls Tryd.prog 18 #[.slice A0 l0.length c0, .int .i64 a1, .int .i64 a2] w fun e w' => e = .returned (.int .i64 r) ∧ Drawn0 w w' := by
  have HR0 := Aside0.mk hr0
  have HC0 := Aside0.mk hc0
  clear hr0 hc0
  have H : (if (l0.length : Int) > 4096 then (some 2) else (if a2 < 1 then (some 1) else (if a2 > 4096 then (some 1) else (if a1 < 0 then (some 1) else (if a1 > a2 then (some 1) else (some 0)))))) = some r := h
  clear h
  by_cases c4 : (l0.length : Int) > 4096
  · rw [if_pos c4] at H
    have c4b0 : decide (4096 < (l0.length : Int)) = true := decide_eq_true c4
    have c4b1 : decide (4096 < l0.length) = true := decide_eq_true (by omega)
    clear c4
    obtain rfl := Option.some.inj H
    go_enter Tryd.func18, Tryd.ntmps18
    go_wp2
    go_ret
    exact ⟨by first | rfl | (simp; done) | (simp [*]; done), by repeat (first | exact Drawn0.refl _ | apply Drawn0.step)⟩
  · rw [if_neg c4] at H
    have c4b0 : decide (4096 < (l0.length : Int)) = false := decide_eq_false c4
    have c4b1 : decide (4096 < l0.length) = false := decide_eq_false (by omega)
    clear c4
    by_cases c5 : a2 < 1
    · rw [if_pos c5] at H
      have c5b0 : decide (a2 < 1) = true := decide_eq_true c5
      clear c5
      obtain rfl := Option.some.inj H
      go_enter Tryd.func18, Tryd.ntmps18
      go_wp2
      go_ret
      exact ⟨by first | rfl | (simp; done) | (simp [*]; done), by repeat (first | exact Drawn0.refl _ | apply Drawn0.step)⟩
    · rw [if_neg c5] at H
      have c5b0 : decide (a2 < 1) = false := decide_eq_false c5
      clear c5
      by_cases c6 : a2 > 4096
      · rw [if_pos c6] at H
        have c6b0 : decide (4096 < a2) = true := decide_eq_true c6
        clear c6
        obtain rfl := Option.some.inj H
        go_enter Tryd.func18, Tryd.ntmps18
        go_wp2
        go_ret
        exact ⟨by first | rfl | (simp; done) | (simp [*]; done), by repeat (first | exact Drawn0.refl _ | apply Drawn0.step)⟩
      · rw [if_neg c6] at H
        have c6b0 : decide (4096 < a2) = false := decide_eq_false c6
        clear c6
        by_cases c7 : a1 < 0
        · rw [if_pos c7] at H
          have c7b0 : decide (a1 < 0) = true := decide_eq_true c7
          clear c7
          obtain rfl := Option.some.inj H
          go_enter Tryd.func18, Tryd.ntmps18
          go_wp2
          go_ret
          exact ⟨by first | rfl | (simp; done) | (simp [*]; done), by repeat (first | exact Drawn0.refl _ | apply Drawn0.step)⟩
        · rw [if_neg c7] at H
          have c7b0 : decide (a1 < 0) = false := decide_eq_false c7
          clear c7
          by_cases c8 : a1 > a2
          · rw [if_pos c8] at H
            have c8b0 : decide (a2 < a1) = true := decide_eq_true c8
            clear c8
            obtain rfl := Option.some.inj H
            go_enter Tryd.func18, Tryd.ntmps18
            go_wp2
            go_ret
            exact ⟨by first | rfl | (simp; done) | (simp [*]; done), by repeat (first | exact Drawn0.refl _ | apply Drawn0.step)⟩
          · rw [if_neg c8] at H
            have c8b0 : decide (a2 < a1) = false := decide_eq_false c8
            clear c8
            obtain rfl := Option.some.inj H
            go_enter Tryd.func18, Tryd.ntmps18
            go_wp2
            go_ret
            exact ⟨by first | rfl | (simp; done) | (simp [*]; done), by repeat (first | exact Drawn0.refl _ | apply Drawn0.step)⟩

/-! ### psalteryref01_down: function 61 -/
def psalteryref01_down.f (a0 : Int) (a1 : Int) : Option (Int) := if a1 = 0 then (none) else (if (Int.tmod a0 a1) < 0 then (some (wrap64 ((wrap64 (Int.tdiv a0 a1)) - 1))) else (some (wrap64 (Int.tdiv a0 a1))))
set_option maxHeartbeats 8000000 in
set_option maxRecDepth 100000 in
theorem psalteryref01_down.calls (a0 : Int) (a1 : Int) (r : Int) (w : World) (h : psalteryref01_down.f a0 a1 = some r) :
    Calls Tryd.prog 61 #[.int .i64 a0, .int .i64 a1] w fun e w' => e = .returned (.int .i64 r) ∧ Drawn0 w w' := by
  have H : (if a1 = 0 then (none) else (if (Int.tmod a0 a1) < 0 then (some (wrap64 ((wrap64 (Int.tdiv a0 a1)) - 1))) else (some (wrap64 (Int.tdiv a0 a1))))) = some r := h
  clear h
  by_cases c3 : a1 = 0
  · rw [if_pos c3] at H
    exact absurd H (by simp)
  · rw [if_neg c3] at H
    have c3b0 : (a1 == 0) = false := beq_eq_false_iff_ne.mpr c3
    have c3b1 : (a1 != 0) = true := bne_iff_ne.mpr c3
    by_cases c4 : (Int.tmod a0 a1) < 0
    · rw [if_pos c4] at H
      have c4b0 : decide ((Int.tmod a0 a1) < 0) = true := decide_eq_true c4
      clear c4
      obtain rfl := Option.some.inj H
      go_enter Tryd.func61, Tryd.ntmps61
      go_wp2
      go_ret
      exact ⟨by first | rfl | (simp; done) | (simp [*]; done), by repeat (first | exact Drawn0.refl _ | apply Drawn0.step)⟩
    · rw [if_neg c4] at H
      have c4b0 : decide ((Int.tmod a0 a1) < 0) = false := decide_eq_false c4
      clear c4
      obtain rfl := Option.some.inj H
      go_enter Tryd.func61, Tryd.ntmps61
      go_wp2
      go_ret
      exact ⟨by first | rfl | (simp; done) | (simp [*]; done), by repeat (first | exact Drawn0.refl _ | apply Drawn0.step)⟩

/-! ### psalteryref01_Round: function 43 -/
def psalteryref01_Round.f (a0 : Int) (a1 : Int) : Option (Int) := if (mx (mn a1 62) 0) = 0 then (some a0) else (if 0 ≤ (IntKind.u64.wrap ((mx (mn a1 62) 0) - 1)) then ((psalteryref01_down.f a0 (shl .i64 1 (IntKind.u64.wrap ((mx (mn a1 62) 0) - 1)))).bind fun t137 => ((psalteryref01_down.f (wrap64 (t137 + 1)) 2).bind fun t138 => (some t138))) else (none))
set_option maxHeartbeats 8000000 in
set_option maxRecDepth 100000 in
theorem psalteryref01_Round.calls (a0 : Int) (a1 : Int) (r : Int) (w : World) (h : psalteryref01_Round.f a0 a1 = some r) :
    Calls Tryd.prog 43 #[.int .i64 a0, .int .i64 a1] w fun e w' => e = .returned (.int .i64 r) ∧ Below w.heap.size w w' := by
  have HB := Aside0.mk (Below.refl w.heap.size w)
  have H : (if (mx (mn a1 62) 0) = 0 then (some a0) else (if 0 ≤ (IntKind.u64.wrap ((mx (mn a1 62) 0) - 1)) then ((psalteryref01_down.f a0 (shl .i64 1 (IntKind.u64.wrap ((mx (mn a1 62) 0) - 1)))).bind fun t137 => ((psalteryref01_down.f (wrap64 (t137 + 1)) 2).bind fun t138 => (some t138))) else (none))) = some r := h
  clear h
  obtain ⟨ji3, hji3⟩ : ∃ j_ : Int, (mn a1 62) = j_ := ⟨_, rfl⟩
  replace H : (if (mx (ji3) 0) = 0 then (some a0) else (if 0 ≤ (IntKind.u64.wrap ((mx (ji3) 0) - 1)) then ((psalteryref01_down.f a0 (shl .i64 1 (IntKind.u64.wrap ((mx (ji3) 0) - 1)))).bind fun t137 => ((psalteryref01_down.f (wrap64 (t137 + 1)) 2).bind fun t138 => (some t138))) else (none))) = some r := by first | (rw [hji3] at H; exact H) | (simp only [hji3] at H ⊢; exact H)
  (try (have hji3h : ji3 ≤ 62 := by (rw [← hji3]; unfold mn; (repeat' split) <;> omega)))
  (try (have hji3g : ji3 ≤ 64 := by omega))
  have hji3_ : (if 62 < a1 then 62 else a1) = ji3 := hji3
  obtain ⟨ji4, hji4⟩ : ∃ j_ : Int, (mx (ji3) 0) = j_ := ⟨_, rfl⟩
  replace H : (if (ji4) = 0 then (some a0) else (if 0 ≤ (IntKind.u64.wrap ((ji4) - 1)) then ((psalteryref01_down.f a0 (shl .i64 1 (IntKind.u64.wrap ((ji4) - 1)))).bind fun t137 => ((psalteryref01_down.f (wrap64 (t137 + 1)) 2).bind fun t138 => (some t138))) else (none))) = some r := by first | (rw [hji4] at H; exact H) | (simp only [hji4] at H ⊢; exact H)
  have hji4_ : (if (ji3) < 0 then 0 else (ji3)) = ji4 := hji4
  by_cases c5 : (ji4) = 0
  · rw [if_pos c5] at H
    have c5b0 : ((ji4) == 0) = true := beq_iff_eq.mpr c5
    have c5b1 : ((ji4) != 0) = false := bne_eq_false_iff_eq.mpr c5
    clear c5
    obtain rfl := Option.some.inj H
    go_enter Tryd.func43, Tryd.ntmps43
    go_wp2
    go_ret
    exact ⟨by first | rfl | (simp [errW_none, errW_some] <;> rfl) | (simp only [← hji3, ← hji4]; first | rfl | (simp [errW_none, errW_some] <;> rfl)) | (simp [*, errW_none, errW_some] <;> rfl), by repeat (first | (with_reducible first | exact HB.out | apply below_alloc | apply pw_below_drewN | apply below_drew1) | exact HB.out)⟩
  · rw [if_neg c5] at H
    have c5b0 : ((ji4) == 0) = false := beq_eq_false_iff_ne.mpr c5
    have c5b1 : ((ji4) != 0) = true := bne_iff_ne.mpr c5
    obtain ⟨ji6, hji6⟩ : ∃ j_ : Int, (IntKind.u64.wrap ((ji4) - 1)) = j_ := ⟨_, rfl⟩
    replace H : (if 0 ≤ (ji6) then ((psalteryref01_down.f a0 (shl .i64 1 (ji6))).bind fun t137 => ((psalteryref01_down.f (wrap64 (t137 + 1)) 2).bind fun t138 => (some t138))) else (none)) = some r := by first | (rw [hji6] at H; exact H) | (simp only [hji6] at H ⊢; exact H)
    by_cases c7 : 0 ≤ (ji6)
    · rw [if_pos c7] at H
      have c7b0 := eq_true c7
      have c7b1 : decide (0 ≤ (ji6)) = true := decide_eq_true c7
      clear c7
      obtain ⟨ji8, hji8⟩ : ∃ j_ : Int, (shl .i64 1 (ji6)) = j_ := ⟨_, rfl⟩
      replace H : ((psalteryref01_down.f a0 (ji8)).bind fun t137 => ((psalteryref01_down.f (wrap64 (t137 + 1)) 2).bind fun t138 => (some t138))) = some r := by first | (rw [hji8] at H; exact H) | (simp only [hji8] at H ⊢; exact H)
      have hji8_ : (IntKind.i64.wrap (1 * 2 ^ min (ji6).toNat 64)) = ji8 := hji8
      have hji8z : (ji6) ≤ 64 → (IntKind.i64.wrap (1 * 2 ^ (ji6).toNat)) = ji8 := shl_small hji8
      have hji8u : (IntKind.i64.wrap (2 ^ min (ji6).toNat 64)) = ji8 := by have h_ := hji8_; rw [Int.one_mul] at h_; exact h_
      have hji8v : (ji6) ≤ 64 → (IntKind.i64.wrap (2 ^ (ji6).toNat)) = ji8 := fun hle_ => by have h_ := hji8z hle_; rw [Int.one_mul] at h_; exact h_
      have hji8y : (wrap64 (1 * 2 ^ min (ji6).toNat 64)) = ji8 := (i64_w _).symm.trans hji8_
      have hji8x : (ji6) ≤ 64 → (wrap64 (1 * 2 ^ (ji6).toNat)) = ji8 := fun h_ => (i64_w _).symm.trans (hji8z h_)
      have hq_ : ji6 = ji3 - 1 ∧ 0 < ji3 := by
        have h1_ := hji4_; have h2_ := hji6; rw [IntKind.wrap_u64] at h2_
        split at h1_ <;> omega
      have hji8q : (wrap64 (2 ^ (ji3.toNat - 1))) = ji8 := by
        have e_ : ji6.toNat = ji3.toNat - 1 := by omega
        rw [← e_]; exact (i64_w _).symm.trans (hji8v (by omega))
      clear hq_
      replace H := Option.bind_eq_some_iff.mp H
      obtain ⟨t137, A90, H⟩ := H
      replace H : ((psalteryref01_down.f (wrap64 (t137 + 1)) 2).bind fun t138 => (some t138)) = some r := H
      have A9 := Aside0.mk A90
      clear A90
      replace H := Option.bind_eq_some_iff.mp H
      obtain ⟨t138, A100, H⟩ := H
      replace H : (some t138) = some r := H
      have A10 := Aside0.mk A100
      clear A100
      obtain rfl := Option.some.inj H
      go_enter Tryd.func43, Tryd.ntmps43
      go_wp2_with (first | ((with_reducible refine gate_callee (f := 61) rfl ?_); refine goesL_ (some 18) rfl rfl Tryd.func61 (by kernel_rfl) rfl #[.int .i64 a0, .int .i64 ji8] rfl (by (try simp only [List.map_toArray, List.map_cons, List.map_nil]); first | done | (simp only [hji8]; rfl) | rfl | (simp [Act.eval]; exact hji8q) | (simp only [List.length_drop, List.length_take]; rfl)) ?_; (with_reducible refine (psalteryref01_down.calls a0 ji8 t137 _ A9.out).mono ?_); rintro e w' ⟨rfl, ⟨nd, rfl⟩⟩; refine ⟨_, rfl, ?_⟩) | ((with_reducible refine gate_callee (f := 61) rfl ?_); refine goesL_ (some 20) rfl rfl Tryd.func61 (by kernel_rfl) rfl #[.int .i64 (wrap64 (t137 + 1)), .int .i64 2] rfl (by (try simp only [List.map_toArray, List.map_cons, List.map_nil]); first | done | rfl | (simp only [List.length_drop, List.length_take]; rfl)) ?_; (with_reducible refine (psalteryref01_down.calls (wrap64 (t137 + 1)) 2 t138 _ A10.out).mono ?_); rintro e w' ⟨rfl, ⟨nd, rfl⟩⟩; refine ⟨_, rfl, ?_⟩))
      go_ret
      exact ⟨by first | rfl | (simp [errW_none, errW_some] <;> rfl) | (simp only [← hji3, ← hji4, ← hji6, ← hji8]; first | rfl | (simp [errW_none, errW_some] <;> rfl)) | (simp [*, errW_none, errW_some] <;> rfl), by repeat (first | (with_reducible first | exact HB.out | apply below_alloc | apply pw_below_drewN | apply below_drew1) | exact HB.out)⟩
    · rw [if_neg c7] at H
      exact absurd H (by simp)

/-! ### psalteryref03_part: function 72 -/
def psalteryref03_part.f (a0 : Int) (a1 : Int) : Option (Int) := some (wrap64 (Int.tdiv (wrap64 (a0 * a1)) 1073741824))
set_option maxHeartbeats 8000000 in
set_option maxRecDepth 100000 in
theorem psalteryref03_part.calls (a0 : Int) (a1 : Int) (r : Int) (w : World) (h : psalteryref03_part.f a0 a1 = some r) :
    Calls Tryd.prog 72 #[.int .i64 a0, .int .i64 a1] w fun e w' => e = .returned (.int .i64 r) ∧ Drawn0 w w' := by
  have H : (some (wrap64 (Int.tdiv (wrap64 (a0 * a1)) 1073741824))) = some r := h
  clear h
  obtain rfl := Option.some.inj H
  go_enter Tryd.func72, Tryd.ntmps72
  go_wp2
  go_ret
  exact ⟨by first | rfl | (simp; done) | (simp [*]; done), by repeat (first | exact Drawn0.refl _ | apply Drawn0.step)⟩

/-! ### psalteryref03_signed: function 60 -/
def psalteryref03_signed.j0 : Nat → Int → Bool → Int → Option (Int)
  | 0, _, _, _ => none
  | k + 1, x1, x2, x7 => if x1 = 0 then (none) else ((psalteryref03_part.f (wrap64 (Int.tdiv (wrap64 (x7 * 1073741824)) x1)) (wrap64 (Int.tdiv (wrap64 (x7 * 1073741824)) x1))).bind fun t139 => ((psalteryref03_part.f 172272 t139).bind fun t140 => ((psalteryref03_part.f (wrap64 (5026995 - t140)) t139).bind fun t141 => ((psalteryref03_part.f (wrap64 (85569306 - t141)) t139).bind fun t142 => ((psalteryref03_part.f (wrap64 (693598668 - t142)) t139).bind fun t143 => ((psalteryref03_part.f (wrap64 (1686629713 - t143)) (wrap64 (Int.tdiv (wrap64 (x7 * 1073741824)) x1))).bind fun t144 => ((psalteryref01_Round.f t144 15).bind fun t145 => (if t145 > 32767 then (if x2 = true then (some (-32767)) else (some 32767)) else (if x2 = true then (some (IntKind.i16.wrap (wrap64 (-t145)))) else (some (IntKind.i16.wrap (t145))))))))))))
def psalteryref03_signed.f (k : Nat) (a0 : Int) (a1 : Int) (a2 : Bool) : Option (Int) := if (wrap64 (4 * a0)) ≥ a1 then (psalteryref03_signed.j0 k a1 a2 (wrap64 ((wrap64 (2 * a1)) - (wrap64 (4 * a0))))) else (psalteryref03_signed.j0 k a1 a2 (wrap64 (4 * a0)))
theorem psalteryref03_signed.mono_l : ∀ k, (∀ y0 y1 y2, LeO (psalteryref03_signed.j0 k y0 y1 y2) (psalteryref03_signed.j0 (k + 1) y0 y1 y2))
  | 0 => fun _ _ _ r h => by simp [psalteryref03_signed.j0] at h
  | k + 1 => by
    have ih0 := psalteryref03_signed.mono_l k
    · intro y0 y1 y2
      unfold psalteryref03_signed.j0
      repeat' first
      | (with_reducible exact ih0 _ _ _)
      | (with_reducible exact LeO.refl _)
      | (with_reducible exact LeO.none _)
      | (with_reducible refine LeO.ite ?_ ?_)
      | (with_reducible refine LeO.bind ?_ (fun _ => ?_))
      | exact ih0 _ _ _
      | exact LeO.none _
      | refine LeO.ite ?_ ?_
      | refine LeO.bind ?_ (fun _ => ?_)
theorem psalteryref03_signed.mono : ∀ a0 a1 a2 k, LeO (psalteryref03_signed.f k a0 a1 a2) (psalteryref03_signed.f (k + 1) a0 a1 a2) := by
  intro a0 a1 a2 k
  have ih0 := psalteryref03_signed.mono_l k
  unfold psalteryref03_signed.f
  repeat' first
      | (with_reducible exact ih0 _ _ _)
      | (with_reducible exact LeO.refl _)
      | (with_reducible exact LeO.none _)
      | (with_reducible refine LeO.ite ?_ ?_)
      | (with_reducible refine LeO.bind ?_ (fun _ => ?_))
      | exact ih0 _ _ _
      | exact LeO.none _
      | refine LeO.ite ?_ ?_
      | refine LeO.bind ?_ (fun _ => ?_)
set_option maxHeartbeats 8000000 in
set_option maxRecDepth 100000 in
theorem psalteryref03_signed.calls (k : Nat) (a0 : Int) (a1 : Int) (a2 : Bool) (r : Int) (w : World) (h : psalteryref03_signed.f k a0 a1 a2 = some r) :
    Calls Tryd.prog 60 #[.int .i64 a0, .int .i64 a1, .bool a2] w fun e w' => e = .returned (.int .i16 r) ∧ Below w.heap.size w w' := by
  have HB := Aside0.mk (Below.refl w.heap.size w)
  have H : (if (wrap64 (4 * a0)) ≥ a1 then (psalteryref03_signed.j0 k a1 a2 (wrap64 ((wrap64 (2 * a1)) - (wrap64 (4 * a0))))) else (psalteryref03_signed.j0 k a1 a2 (wrap64 (4 * a0)))) = some r := h
  clear h
  have HC4 := Aside0.mk H
  clear H
  go_enter Tryd.func60, Tryd.ntmps60
  go_upto_if 16 with (fail)
  go_cut [7] (fun v7 wc => ∃ (kq : Nat) (x7_3 : Int), v7 = .int .i64 x7_3 ∧ Aside0 (psalteryref03_signed.j0 kq a1 a2 x7_3 = some r) ∧ Aside0 (kq ≤ k) ∧ Aside0 (Below w.heap.size w wc))
  case first =>
    have H := HC4.out
    clear HC4
    by_cases c5 : (wrap64 (4 * a0)) ≥ a1
    · rw [if_pos c5] at H
      have c5b0 : decide (a1 ≤ (wrap64 (4 * a0))) = true := decide_eq_true c5
      clear c5
      (first | rw [c5b0] | (simp only [i64_w, i32_w]; rw [c5b0]) | skip)
      have H' := Aside0.mk H
      clear H
      go_wp2
      go_meet
      case rel => exact ⟨_, (wrap64 ((wrap64 (2 * a1)) - (wrap64 (4 * a0)))), (by first | rfl | (simp; done) | (simp [*]; done)), H', ⟨by first | omega | exact Nat.le_refl _⟩, ⟨by repeat (first | (with_reducible first | exact HB.out | apply below_alloc | apply pw_below_drewN | apply below_drew1) | exact HB.out)⟩⟩
    · rw [if_neg c5] at H
      have c5b0 : decide (a1 ≤ (wrap64 (4 * a0))) = false := decide_eq_false c5
      clear c5
      (first | rw [c5b0] | (simp only [i64_w, i32_w]; rw [c5b0]) | skip)
      have H' := Aside0.mk H
      clear H
      go_wp2
      go_meet
      case rel => exact ⟨_, (wrap64 (4 * a0)), (by first | rfl | (simp; done) | (simp [*]; done)), H', ⟨by first | omega | exact Nat.le_refl _⟩, ⟨by repeat (first | (with_reducible first | exact HB.out | apply below_alloc | apply pw_below_drewN | apply below_drew1) | exact HB.out)⟩⟩
  case rest =>
    clear HC4
    try clear p2
    try clear c5
    try clear c5b0
    obtain ⟨kq, x7_3, rfl, HA, HJ3, HB⟩ := hcut
    cases kq with
    | zero => exact absurd HA.out (by simp [psalteryref03_signed.j0])
    | succ kj3 =>
      have H := HA.out
      clear HA
      simp only [psalteryref03_signed.j0] at H
      by_cases c6 : a1 = 0
      · rw [if_pos c6] at H
        exact absurd H (by simp)
      · rw [if_neg c6] at H
        have c6b0 : (a1 == 0) = false := beq_eq_false_iff_ne.mpr c6
        have c6b1 : (a1 != 0) = true := bne_iff_ne.mpr c6
        replace H := Option.bind_eq_some_iff.mp H
        obtain ⟨t139, A70, H⟩ := H
        replace H : ((psalteryref03_part.f 172272 t139).bind fun t140 => ((psalteryref03_part.f (wrap64 (5026995 - t140)) t139).bind fun t141 => ((psalteryref03_part.f (wrap64 (85569306 - t141)) t139).bind fun t142 => ((psalteryref03_part.f (wrap64 (693598668 - t142)) t139).bind fun t143 => ((psalteryref03_part.f (wrap64 (1686629713 - t143)) (wrap64 (Int.tdiv (wrap64 (x7_3 * 1073741824)) a1))).bind fun t144 => ((psalteryref01_Round.f t144 15).bind fun t145 => (if t145 > 32767 then (if a2 = true then (some (-32767)) else (some 32767)) else (if a2 = true then (some (IntKind.i16.wrap (wrap64 (-t145)))) else (some (IntKind.i16.wrap (t145))))))))))) = some r := H
        have A7 := Aside0.mk A70
        clear A70
        replace H := Option.bind_eq_some_iff.mp H
        obtain ⟨t140, A80, H⟩ := H
        replace H : ((psalteryref03_part.f (wrap64 (5026995 - t140)) t139).bind fun t141 => ((psalteryref03_part.f (wrap64 (85569306 - t141)) t139).bind fun t142 => ((psalteryref03_part.f (wrap64 (693598668 - t142)) t139).bind fun t143 => ((psalteryref03_part.f (wrap64 (1686629713 - t143)) (wrap64 (Int.tdiv (wrap64 (x7_3 * 1073741824)) a1))).bind fun t144 => ((psalteryref01_Round.f t144 15).bind fun t145 => (if t145 > 32767 then (if a2 = true then (some (-32767)) else (some 32767)) else (if a2 = true then (some (IntKind.i16.wrap (wrap64 (-t145)))) else (some (IntKind.i16.wrap (t145)))))))))) = some r := H
        have A8 := Aside0.mk A80
        clear A80
        replace H := Option.bind_eq_some_iff.mp H
        obtain ⟨t141, A90, H⟩ := H
        replace H : ((psalteryref03_part.f (wrap64 (85569306 - t141)) t139).bind fun t142 => ((psalteryref03_part.f (wrap64 (693598668 - t142)) t139).bind fun t143 => ((psalteryref03_part.f (wrap64 (1686629713 - t143)) (wrap64 (Int.tdiv (wrap64 (x7_3 * 1073741824)) a1))).bind fun t144 => ((psalteryref01_Round.f t144 15).bind fun t145 => (if t145 > 32767 then (if a2 = true then (some (-32767)) else (some 32767)) else (if a2 = true then (some (IntKind.i16.wrap (wrap64 (-t145)))) else (some (IntKind.i16.wrap (t145))))))))) = some r := H
        have A9 := Aside0.mk A90
        clear A90
        replace H := Option.bind_eq_some_iff.mp H
        obtain ⟨t142, A100, H⟩ := H
        replace H : ((psalteryref03_part.f (wrap64 (693598668 - t142)) t139).bind fun t143 => ((psalteryref03_part.f (wrap64 (1686629713 - t143)) (wrap64 (Int.tdiv (wrap64 (x7_3 * 1073741824)) a1))).bind fun t144 => ((psalteryref01_Round.f t144 15).bind fun t145 => (if t145 > 32767 then (if a2 = true then (some (-32767)) else (some 32767)) else (if a2 = true then (some (IntKind.i16.wrap (wrap64 (-t145)))) else (some (IntKind.i16.wrap (t145)))))))) = some r := H
        have A10 := Aside0.mk A100
        clear A100
        replace H := Option.bind_eq_some_iff.mp H
        obtain ⟨t143, A110, H⟩ := H
        replace H : ((psalteryref03_part.f (wrap64 (1686629713 - t143)) (wrap64 (Int.tdiv (wrap64 (x7_3 * 1073741824)) a1))).bind fun t144 => ((psalteryref01_Round.f t144 15).bind fun t145 => (if t145 > 32767 then (if a2 = true then (some (-32767)) else (some 32767)) else (if a2 = true then (some (IntKind.i16.wrap (wrap64 (-t145)))) else (some (IntKind.i16.wrap (t145))))))) = some r := H
        have A11 := Aside0.mk A110
        clear A110
        replace H := Option.bind_eq_some_iff.mp H
        obtain ⟨t144, A120, H⟩ := H
        replace H : ((psalteryref01_Round.f t144 15).bind fun t145 => (if t145 > 32767 then (if a2 = true then (some (-32767)) else (some 32767)) else (if a2 = true then (some (IntKind.i16.wrap (wrap64 (-t145)))) else (some (IntKind.i16.wrap (t145)))))) = some r := H
        have A12 := Aside0.mk A120
        clear A120
        replace H := Option.bind_eq_some_iff.mp H
        obtain ⟨t145, A130, H⟩ := H
        replace H : (if t145 > 32767 then (if a2 = true then (some (-32767)) else (some 32767)) else (if a2 = true then (some (IntKind.i16.wrap (wrap64 (-t145)))) else (some (IntKind.i16.wrap (t145))))) = some r := H
        have A13 := Aside0.mk A130
        clear A130
        by_cases c14 : t145 > 32767
        · rw [if_pos c14] at H
          have c14b0 : decide (32767 < t145) = true := decide_eq_true c14
          clear c14
          by_cases c15 : a2 = true
          · subst c15
            have H1 : (some (-32767)) = some r := by rw [if_pos rfl] at H; exact H
            clear H
            have H := H1
            clear H1
            obtain rfl := Option.some.inj H
            go_wp2_with (first | ((with_reducible refine gate_callee (f := 72) rfl ?_); refine goesL_ (some 27) rfl rfl Tryd.func72 (by kernel_rfl) rfl #[.int .i64 (wrap64 (Int.tdiv (wrap64 (x7_3 * 1073741824)) a1)), .int .i64 (wrap64 (Int.tdiv (wrap64 (x7_3 * 1073741824)) a1))] rfl (by (try simp only [List.map_toArray, List.map_cons, List.map_nil]); first | done | rfl | (simp only [List.length_drop, List.length_take]; rfl)) ?_; (with_reducible refine (psalteryref03_part.calls (wrap64 (Int.tdiv (wrap64 (x7_3 * 1073741824)) a1)) (wrap64 (Int.tdiv (wrap64 (x7_3 * 1073741824)) a1)) t139 _ A7.out).mono ?_); rintro e w' ⟨rfl, ⟨nd, rfl⟩⟩; refine ⟨_, rfl, ?_⟩) | ((with_reducible refine gate_callee (f := 72) rfl ?_); refine goesL_ (some 29) rfl rfl Tryd.func72 (by kernel_rfl) rfl #[.int .i64 172272, .int .i64 t139] rfl (by (try simp only [List.map_toArray, List.map_cons, List.map_nil]); first | done | rfl | (simp only [List.length_drop, List.length_take]; rfl)) ?_; (with_reducible refine (psalteryref03_part.calls 172272 t139 t140 _ A8.out).mono ?_); rintro e w' ⟨rfl, ⟨nd, rfl⟩⟩; refine ⟨_, rfl, ?_⟩) | ((with_reducible refine gate_callee (f := 72) rfl ?_); refine goesL_ (some 32) rfl rfl Tryd.func72 (by kernel_rfl) rfl #[.int .i64 (wrap64 (5026995 - t140)), .int .i64 t139] rfl (by (try simp only [List.map_toArray, List.map_cons, List.map_nil]); first | done | rfl | (simp only [List.length_drop, List.length_take]; rfl)) ?_; (with_reducible refine (psalteryref03_part.calls (wrap64 (5026995 - t140)) t139 t141 _ A9.out).mono ?_); rintro e w' ⟨rfl, ⟨nd, rfl⟩⟩; refine ⟨_, rfl, ?_⟩) | ((with_reducible refine gate_callee (f := 72) rfl ?_); refine goesL_ (some 35) rfl rfl Tryd.func72 (by kernel_rfl) rfl #[.int .i64 (wrap64 (85569306 - t141)), .int .i64 t139] rfl (by (try simp only [List.map_toArray, List.map_cons, List.map_nil]); first | done | rfl | (simp only [List.length_drop, List.length_take]; rfl)) ?_; (with_reducible refine (psalteryref03_part.calls (wrap64 (85569306 - t141)) t139 t142 _ A10.out).mono ?_); rintro e w' ⟨rfl, ⟨nd, rfl⟩⟩; refine ⟨_, rfl, ?_⟩) | ((with_reducible refine gate_callee (f := 72) rfl ?_); refine goesL_ (some 38) rfl rfl Tryd.func72 (by kernel_rfl) rfl #[.int .i64 (wrap64 (693598668 - t142)), .int .i64 t139] rfl (by (try simp only [List.map_toArray, List.map_cons, List.map_nil]); first | done | rfl | (simp only [List.length_drop, List.length_take]; rfl)) ?_; (with_reducible refine (psalteryref03_part.calls (wrap64 (693598668 - t142)) t139 t143 _ A11.out).mono ?_); rintro e w' ⟨rfl, ⟨nd, rfl⟩⟩; refine ⟨_, rfl, ?_⟩) | ((with_reducible refine gate_callee (f := 72) rfl ?_); refine goesL_ (some 42) rfl rfl Tryd.func72 (by kernel_rfl) rfl #[.int .i64 (wrap64 (1686629713 - t143)), .int .i64 (wrap64 (Int.tdiv (wrap64 (x7_3 * 1073741824)) a1))] rfl (by (try simp only [List.map_toArray, List.map_cons, List.map_nil]); first | done | rfl | (simp only [List.length_drop, List.length_take]; rfl)) ?_; (with_reducible refine (psalteryref03_part.calls (wrap64 (1686629713 - t143)) (wrap64 (Int.tdiv (wrap64 (x7_3 * 1073741824)) a1)) t144 _ A12.out).mono ?_); rintro e w' ⟨rfl, ⟨nd, rfl⟩⟩; refine ⟨_, rfl, ?_⟩) | ((with_reducible refine gate_callee (f := 43) rfl ?_); refine goesL_ (some 43) rfl rfl Tryd.func43 (by kernel_rfl) rfl #[.int .i64 t144, .int .i64 15] rfl (by (try simp only [List.map_toArray, List.map_cons, List.map_nil]); first | done | rfl | (simp only [List.length_drop, List.length_take]; rfl)) ?_; (with_reducible refine (psalteryref01_Round.calls t144 15 t145 _ A13.out).mono ?_); rintro e w16 ⟨rfl, hb⟩; refine ⟨_, rfl, ?_⟩; have n0_ := Aside0.mk (below_step (by repeat (first | (with_reducible first | exact HB.out | apply below_alloc | apply pw_below_drewN | apply below_drew1) | exact HB.out)) hb); clear HB; have HB := n0_; clear n0_; (try clear hb); (try clear hb2); (try clear hk); (try clear hi)))
            go_ret
            exact ⟨by first | rfl | (simp [errW_none, errW_some] <;> rfl) | (simp [*, errW_none, errW_some] <;> rfl), by repeat (first | (with_reducible first | exact HB.out | apply below_alloc | apply pw_below_drewN | apply below_drew1) | exact HB.out)⟩
          · replace c15 := Bool.eq_false_iff.mpr c15
            subst c15
            have H1 : (some 32767) = some r := by rw [if_neg (show ¬ (false = true) by decide)] at H; exact H
            clear H
            have H := H1
            clear H1
            obtain rfl := Option.some.inj H
            go_wp2_with (first | ((with_reducible refine gate_callee (f := 72) rfl ?_); refine goesL_ (some 27) rfl rfl Tryd.func72 (by kernel_rfl) rfl #[.int .i64 (wrap64 (Int.tdiv (wrap64 (x7_3 * 1073741824)) a1)), .int .i64 (wrap64 (Int.tdiv (wrap64 (x7_3 * 1073741824)) a1))] rfl (by (try simp only [List.map_toArray, List.map_cons, List.map_nil]); first | done | rfl | (simp only [List.length_drop, List.length_take]; rfl)) ?_; (with_reducible refine (psalteryref03_part.calls (wrap64 (Int.tdiv (wrap64 (x7_3 * 1073741824)) a1)) (wrap64 (Int.tdiv (wrap64 (x7_3 * 1073741824)) a1)) t139 _ A7.out).mono ?_); rintro e w' ⟨rfl, ⟨nd, rfl⟩⟩; refine ⟨_, rfl, ?_⟩) | ((with_reducible refine gate_callee (f := 72) rfl ?_); refine goesL_ (some 29) rfl rfl Tryd.func72 (by kernel_rfl) rfl #[.int .i64 172272, .int .i64 t139] rfl (by (try simp only [List.map_toArray, List.map_cons, List.map_nil]); first | done | rfl | (simp only [List.length_drop, List.length_take]; rfl)) ?_; (with_reducible refine (psalteryref03_part.calls 172272 t139 t140 _ A8.out).mono ?_); rintro e w' ⟨rfl, ⟨nd, rfl⟩⟩; refine ⟨_, rfl, ?_⟩) | ((with_reducible refine gate_callee (f := 72) rfl ?_); refine goesL_ (some 32) rfl rfl Tryd.func72 (by kernel_rfl) rfl #[.int .i64 (wrap64 (5026995 - t140)), .int .i64 t139] rfl (by (try simp only [List.map_toArray, List.map_cons, List.map_nil]); first | done | rfl | (simp only [List.length_drop, List.length_take]; rfl)) ?_; (with_reducible refine (psalteryref03_part.calls (wrap64 (5026995 - t140)) t139 t141 _ A9.out).mono ?_); rintro e w' ⟨rfl, ⟨nd, rfl⟩⟩; refine ⟨_, rfl, ?_⟩) | ((with_reducible refine gate_callee (f := 72) rfl ?_); refine goesL_ (some 35) rfl rfl Tryd.func72 (by kernel_rfl) rfl #[.int .i64 (wrap64 (85569306 - t141)), .int .i64 t139] rfl (by (try simp only [List.map_toArray, List.map_cons, List.map_nil]); first | done | rfl | (simp only [List.length_drop, List.length_take]; rfl)) ?_; (with_reducible refine (psalteryref03_part.calls (wrap64 (85569306 - t141)) t139 t142 _ A10.out).mono ?_); rintro e w' ⟨rfl, ⟨nd, rfl⟩⟩; refine ⟨_, rfl, ?_⟩) | ((with_reducible refine gate_callee (f := 72) rfl ?_); refine goesL_ (some 38) rfl rfl Tryd.func72 (by kernel_rfl) rfl #[.int .i64 (wrap64 (693598668 - t142)), .int .i64 t139] rfl (by (try simp only [List.map_toArray, List.map_cons, List.map_nil]); first | done | rfl | (simp only [List.length_drop, List.length_take]; rfl)) ?_; (with_reducible refine (psalteryref03_part.calls (wrap64 (693598668 - t142)) t139 t143 _ A11.out).mono ?_); rintro e w' ⟨rfl, ⟨nd, rfl⟩⟩; refine ⟨_, rfl, ?_⟩) | ((with_reducible refine gate_callee (f := 72) rfl ?_); refine goesL_ (some 42) rfl rfl Tryd.func72 (by kernel_rfl) rfl #[.int .i64 (wrap64 (1686629713 - t143)), .int .i64 (wrap64 (Int.tdiv (wrap64 (x7_3 * 1073741824)) a1))] rfl (by (try simp only [List.map_toArray, List.map_cons, List.map_nil]); first | done | rfl | (simp only [List.length_drop, List.length_take]; rfl)) ?_; (with_reducible refine (psalteryref03_part.calls (wrap64 (1686629713 - t143)) (wrap64 (Int.tdiv (wrap64 (x7_3 * 1073741824)) a1)) t144 _ A12.out).mono ?_); rintro e w' ⟨rfl, ⟨nd, rfl⟩⟩; refine ⟨_, rfl, ?_⟩) | ((with_reducible refine gate_callee (f := 43) rfl ?_); refine goesL_ (some 43) rfl rfl Tryd.func43 (by kernel_rfl) rfl #[.int .i64 t144, .int .i64 15] rfl (by (try simp only [List.map_toArray, List.map_cons, List.map_nil]); first | done | rfl | (simp only [List.length_drop, List.length_take]; rfl)) ?_; (with_reducible refine (psalteryref01_Round.calls t144 15 t145 _ A13.out).mono ?_); rintro e w17 ⟨rfl, hb⟩; refine ⟨_, rfl, ?_⟩; have n0_ := Aside0.mk (below_step (by repeat (first | (with_reducible first | exact HB.out | apply below_alloc | apply pw_below_drewN | apply below_drew1) | exact HB.out)) hb); clear HB; have HB := n0_; clear n0_; (try clear hb); (try clear hb2); (try clear hk); (try clear hi)))
            go_ret
            exact ⟨by first | rfl | (simp [errW_none, errW_some] <;> rfl) | (simp [*, errW_none, errW_some] <;> rfl), by repeat (first | (with_reducible first | exact HB.out | apply below_alloc | apply pw_below_drewN | apply below_drew1) | exact HB.out)⟩
        · rw [if_neg c14] at H
          have c14b0 : decide (32767 < t145) = false := decide_eq_false c14
          clear c14
          by_cases c18 : a2 = true
          · subst c18
            have H1 : (some (IntKind.i16.wrap (wrap64 (-t145)))) = some r := by rw [if_pos rfl] at H; exact H
            clear H
            have H := H1
            clear H1
            obtain rfl := Option.some.inj H
            go_wp2_with (first | ((with_reducible refine gate_callee (f := 72) rfl ?_); refine goesL_ (some 27) rfl rfl Tryd.func72 (by kernel_rfl) rfl #[.int .i64 (wrap64 (Int.tdiv (wrap64 (x7_3 * 1073741824)) a1)), .int .i64 (wrap64 (Int.tdiv (wrap64 (x7_3 * 1073741824)) a1))] rfl (by (try simp only [List.map_toArray, List.map_cons, List.map_nil]); first | done | rfl | (simp only [List.length_drop, List.length_take]; rfl)) ?_; (with_reducible refine (psalteryref03_part.calls (wrap64 (Int.tdiv (wrap64 (x7_3 * 1073741824)) a1)) (wrap64 (Int.tdiv (wrap64 (x7_3 * 1073741824)) a1)) t139 _ A7.out).mono ?_); rintro e w' ⟨rfl, ⟨nd, rfl⟩⟩; refine ⟨_, rfl, ?_⟩) | ((with_reducible refine gate_callee (f := 72) rfl ?_); refine goesL_ (some 29) rfl rfl Tryd.func72 (by kernel_rfl) rfl #[.int .i64 172272, .int .i64 t139] rfl (by (try simp only [List.map_toArray, List.map_cons, List.map_nil]); first | done | rfl | (simp only [List.length_drop, List.length_take]; rfl)) ?_; (with_reducible refine (psalteryref03_part.calls 172272 t139 t140 _ A8.out).mono ?_); rintro e w' ⟨rfl, ⟨nd, rfl⟩⟩; refine ⟨_, rfl, ?_⟩) | ((with_reducible refine gate_callee (f := 72) rfl ?_); refine goesL_ (some 32) rfl rfl Tryd.func72 (by kernel_rfl) rfl #[.int .i64 (wrap64 (5026995 - t140)), .int .i64 t139] rfl (by (try simp only [List.map_toArray, List.map_cons, List.map_nil]); first | done | rfl | (simp only [List.length_drop, List.length_take]; rfl)) ?_; (with_reducible refine (psalteryref03_part.calls (wrap64 (5026995 - t140)) t139 t141 _ A9.out).mono ?_); rintro e w' ⟨rfl, ⟨nd, rfl⟩⟩; refine ⟨_, rfl, ?_⟩) | ((with_reducible refine gate_callee (f := 72) rfl ?_); refine goesL_ (some 35) rfl rfl Tryd.func72 (by kernel_rfl) rfl #[.int .i64 (wrap64 (85569306 - t141)), .int .i64 t139] rfl (by (try simp only [List.map_toArray, List.map_cons, List.map_nil]); first | done | rfl | (simp only [List.length_drop, List.length_take]; rfl)) ?_; (with_reducible refine (psalteryref03_part.calls (wrap64 (85569306 - t141)) t139 t142 _ A10.out).mono ?_); rintro e w' ⟨rfl, ⟨nd, rfl⟩⟩; refine ⟨_, rfl, ?_⟩) | ((with_reducible refine gate_callee (f := 72) rfl ?_); refine goesL_ (some 38) rfl rfl Tryd.func72 (by kernel_rfl) rfl #[.int .i64 (wrap64 (693598668 - t142)), .int .i64 t139] rfl (by (try simp only [List.map_toArray, List.map_cons, List.map_nil]); first | done | rfl | (simp only [List.length_drop, List.length_take]; rfl)) ?_; (with_reducible refine (psalteryref03_part.calls (wrap64 (693598668 - t142)) t139 t143 _ A11.out).mono ?_); rintro e w' ⟨rfl, ⟨nd, rfl⟩⟩; refine ⟨_, rfl, ?_⟩) | ((with_reducible refine gate_callee (f := 72) rfl ?_); refine goesL_ (some 42) rfl rfl Tryd.func72 (by kernel_rfl) rfl #[.int .i64 (wrap64 (1686629713 - t143)), .int .i64 (wrap64 (Int.tdiv (wrap64 (x7_3 * 1073741824)) a1))] rfl (by (try simp only [List.map_toArray, List.map_cons, List.map_nil]); first | done | rfl | (simp only [List.length_drop, List.length_take]; rfl)) ?_; (with_reducible refine (psalteryref03_part.calls (wrap64 (1686629713 - t143)) (wrap64 (Int.tdiv (wrap64 (x7_3 * 1073741824)) a1)) t144 _ A12.out).mono ?_); rintro e w' ⟨rfl, ⟨nd, rfl⟩⟩; refine ⟨_, rfl, ?_⟩) | ((with_reducible refine gate_callee (f := 43) rfl ?_); refine goesL_ (some 43) rfl rfl Tryd.func43 (by kernel_rfl) rfl #[.int .i64 t144, .int .i64 15] rfl (by (try simp only [List.map_toArray, List.map_cons, List.map_nil]); first | done | rfl | (simp only [List.length_drop, List.length_take]; rfl)) ?_; (with_reducible refine (psalteryref01_Round.calls t144 15 t145 _ A13.out).mono ?_); rintro e w19 ⟨rfl, hb⟩; refine ⟨_, rfl, ?_⟩; have n0_ := Aside0.mk (below_step (by repeat (first | (with_reducible first | exact HB.out | apply below_alloc | apply pw_below_drewN | apply below_drew1) | exact HB.out)) hb); clear HB; have HB := n0_; clear n0_; (try clear hb); (try clear hb2); (try clear hk); (try clear hi)))
            go_ret
            exact ⟨by first | rfl | (simp [errW_none, errW_some] <;> rfl) | (simp [*, errW_none, errW_some] <;> rfl), by repeat (first | (with_reducible first | exact HB.out | apply below_alloc | apply pw_below_drewN | apply below_drew1) | exact HB.out)⟩
          · replace c18 := Bool.eq_false_iff.mpr c18
            subst c18
            have H1 : (some (IntKind.i16.wrap (t145))) = some r := by rw [if_neg (show ¬ (false = true) by decide)] at H; exact H
            clear H
            have H := H1
            clear H1
            obtain rfl := Option.some.inj H
            go_wp2_with (first | ((with_reducible refine gate_callee (f := 72) rfl ?_); refine goesL_ (some 27) rfl rfl Tryd.func72 (by kernel_rfl) rfl #[.int .i64 (wrap64 (Int.tdiv (wrap64 (x7_3 * 1073741824)) a1)), .int .i64 (wrap64 (Int.tdiv (wrap64 (x7_3 * 1073741824)) a1))] rfl (by (try simp only [List.map_toArray, List.map_cons, List.map_nil]); first | done | rfl | (simp only [List.length_drop, List.length_take]; rfl)) ?_; (with_reducible refine (psalteryref03_part.calls (wrap64 (Int.tdiv (wrap64 (x7_3 * 1073741824)) a1)) (wrap64 (Int.tdiv (wrap64 (x7_3 * 1073741824)) a1)) t139 _ A7.out).mono ?_); rintro e w' ⟨rfl, ⟨nd, rfl⟩⟩; refine ⟨_, rfl, ?_⟩) | ((with_reducible refine gate_callee (f := 72) rfl ?_); refine goesL_ (some 29) rfl rfl Tryd.func72 (by kernel_rfl) rfl #[.int .i64 172272, .int .i64 t139] rfl (by (try simp only [List.map_toArray, List.map_cons, List.map_nil]); first | done | rfl | (simp only [List.length_drop, List.length_take]; rfl)) ?_; (with_reducible refine (psalteryref03_part.calls 172272 t139 t140 _ A8.out).mono ?_); rintro e w' ⟨rfl, ⟨nd, rfl⟩⟩; refine ⟨_, rfl, ?_⟩) | ((with_reducible refine gate_callee (f := 72) rfl ?_); refine goesL_ (some 32) rfl rfl Tryd.func72 (by kernel_rfl) rfl #[.int .i64 (wrap64 (5026995 - t140)), .int .i64 t139] rfl (by (try simp only [List.map_toArray, List.map_cons, List.map_nil]); first | done | rfl | (simp only [List.length_drop, List.length_take]; rfl)) ?_; (with_reducible refine (psalteryref03_part.calls (wrap64 (5026995 - t140)) t139 t141 _ A9.out).mono ?_); rintro e w' ⟨rfl, ⟨nd, rfl⟩⟩; refine ⟨_, rfl, ?_⟩) | ((with_reducible refine gate_callee (f := 72) rfl ?_); refine goesL_ (some 35) rfl rfl Tryd.func72 (by kernel_rfl) rfl #[.int .i64 (wrap64 (85569306 - t141)), .int .i64 t139] rfl (by (try simp only [List.map_toArray, List.map_cons, List.map_nil]); first | done | rfl | (simp only [List.length_drop, List.length_take]; rfl)) ?_; (with_reducible refine (psalteryref03_part.calls (wrap64 (85569306 - t141)) t139 t142 _ A10.out).mono ?_); rintro e w' ⟨rfl, ⟨nd, rfl⟩⟩; refine ⟨_, rfl, ?_⟩) | ((with_reducible refine gate_callee (f := 72) rfl ?_); refine goesL_ (some 38) rfl rfl Tryd.func72 (by kernel_rfl) rfl #[.int .i64 (wrap64 (693598668 - t142)), .int .i64 t139] rfl (by (try simp only [List.map_toArray, List.map_cons, List.map_nil]); first | done | rfl | (simp only [List.length_drop, List.length_take]; rfl)) ?_; (with_reducible refine (psalteryref03_part.calls (wrap64 (693598668 - t142)) t139 t143 _ A11.out).mono ?_); rintro e w' ⟨rfl, ⟨nd, rfl⟩⟩; refine ⟨_, rfl, ?_⟩) | ((with_reducible refine gate_callee (f := 72) rfl ?_); refine goesL_ (some 42) rfl rfl Tryd.func72 (by kernel_rfl) rfl #[.int .i64 (wrap64 (1686629713 - t143)), .int .i64 (wrap64 (Int.tdiv (wrap64 (x7_3 * 1073741824)) a1))] rfl (by (try simp only [List.map_toArray, List.map_cons, List.map_nil]); first | done | rfl | (simp only [List.length_drop, List.length_take]; rfl)) ?_; (with_reducible refine (psalteryref03_part.calls (wrap64 (1686629713 - t143)) (wrap64 (Int.tdiv (wrap64 (x7_3 * 1073741824)) a1)) t144 _ A12.out).mono ?_); rintro e w' ⟨rfl, ⟨nd, rfl⟩⟩; refine ⟨_, rfl, ?_⟩) | ((with_reducible refine gate_callee (f := 43) rfl ?_); refine goesL_ (some 43) rfl rfl Tryd.func43 (by kernel_rfl) rfl #[.int .i64 t144, .int .i64 15] rfl (by (try simp only [List.map_toArray, List.map_cons, List.map_nil]); first | done | rfl | (simp only [List.length_drop, List.length_take]; rfl)) ?_; (with_reducible refine (psalteryref01_Round.calls t144 15 t145 _ A13.out).mono ?_); rintro e w20 ⟨rfl, hb⟩; refine ⟨_, rfl, ?_⟩; have n0_ := Aside0.mk (below_step (by repeat (first | (with_reducible first | exact HB.out | apply below_alloc | apply pw_below_drewN | apply below_drew1) | exact HB.out)) hb); clear HB; have HB := n0_; clear n0_; (try clear hb); (try clear hb2); (try clear hk); (try clear hi)))
            go_ret
            exact ⟨by first | rfl | (simp [errW_none, errW_some] <;> rfl) | (simp [*, errW_none, errW_some] <;> rfl), by repeat (first | (with_reducible first | exact HB.out | apply below_alloc | apply pw_below_drewN | apply below_drew1) | exact HB.out)⟩

end Go.Proofs.YtiiebkfeodmefaaDoor.PTuner
