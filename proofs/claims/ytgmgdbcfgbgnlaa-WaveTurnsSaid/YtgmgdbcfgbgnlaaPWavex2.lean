/- Contracts of the functions that the law Wave reaches: each Go function as a Lean function, and that the Go text comes to it. Written by programs (wip/tools), out of the program's own loaded form. -/
import Derived.Test.YtgmgdbcfgbgnlaaPWavex0
import Derived.Test.YtgmgdbcfgbgnlaaPWavex1
namespace Go.Proofs.Ytgmgdbcfgbgnlaa.PWave
open Go.RowKit Go.Proofs.YtgmgdbcfgbgnlaaW.PrintWords Go.Proofs.YtgmgdbcfgbgnlaaW.PrintLast Go.Proofs.YtgmgdbcfgbgnlaaW.PrintMore
attribute [local go_sem] max2_int min2_int max_two min_two max_three min_three max_four min_four   -- for this text's walks alone
set_option linter.unusedVariables false
set_option linter.unusedSimpArgs false

/-! ### psalteryref03_of: function 55 -/
def psalteryref03_of.j0 : Nat → Int → Int → Option (Int)
  | 0, _, _ => none
  | k + 1, x1, x5 => if (wrap64 (2 * x5)) ≥ x1 then ((psalteryref03_signed.f k (wrap64 (x5 - (wrap64 (Int.tdiv x1 2)))) x1 true).bind fun t127 => (some t127)) else ((psalteryref03_signed.f k x5 x1 false).bind fun t128 => (some t128))
def psalteryref03_of.f (k : Nat) (a0 : Int) (a1 : Int) : Option (Int) := if a0 < 0 then (psalteryref03_of.j0 k a1 (wrap64 (a0 + a1))) else (psalteryref03_of.j0 k a1 a0)
theorem psalteryref03_of.mono_l : ∀ k, (∀ y0 y1, LeO (psalteryref03_of.j0 k y0 y1) (psalteryref03_of.j0 (k + 1) y0 y1))
  | 0 => fun _ _ r h => by simp [psalteryref03_of.j0] at h
  | k + 1 => by
    have ih0 := psalteryref03_of.mono_l k
    · intro y0 y1
      unfold psalteryref03_of.j0
      repeat' first
      | (with_reducible exact ih0 _ _)
      | (with_reducible exact psalteryref03_signed.mono _ _ _ _)
      | (with_reducible exact LeO.refl _)
      | (with_reducible exact LeO.none _)
      | (with_reducible refine LeO.ite ?_ ?_)
      | (with_reducible refine LeO.bind ?_ (fun _ => ?_))
      | exact ih0 _ _
      | exact psalteryref03_signed.mono _ _ _ _
      | exact LeO.none _
      | refine LeO.ite ?_ ?_
      | refine LeO.bind ?_ (fun _ => ?_)
theorem psalteryref03_of.mono : ∀ a0 a1 k, LeO (psalteryref03_of.f k a0 a1) (psalteryref03_of.f (k + 1) a0 a1) := by
  intro a0 a1 k
  have ih0 := psalteryref03_of.mono_l k
  unfold psalteryref03_of.f
  repeat' first
      | (with_reducible exact ih0 _ _)
      | (with_reducible exact psalteryref03_signed.mono _ _ _ _)
      | (with_reducible exact LeO.refl _)
      | (with_reducible exact LeO.none _)
      | (with_reducible refine LeO.ite ?_ ?_)
      | (with_reducible refine LeO.bind ?_ (fun _ => ?_))
      | exact ih0 _ _
      | exact psalteryref03_signed.mono _ _ _ _
      | exact LeO.none _
      | refine LeO.ite ?_ ?_
      | refine LeO.bind ?_ (fun _ => ?_)
set_option maxHeartbeats 8000000 in
set_option maxRecDepth 100000 in
theorem psalteryref03_of.calls (k : Nat) (a0 : Int) (a1 : Int) (r : Int) (w : World) (h : psalteryref03_of.f k a0 a1 = some r) :
    Calls Try.prog 55 #[.int .i64 a0, .int .i64 a1] w fun e w' => e = .returned (.int .i16 r) ∧ Below w.heap.size w w' := by
  have HB := Aside0.mk (Below.refl w.heap.size w)
  have H : (if a0 < 0 then (psalteryref03_of.j0 k a1 (wrap64 (a0 + a1))) else (psalteryref03_of.j0 k a1 a0)) = some r := h
  clear h
  have HC3 := Aside0.mk H
  clear H
  go_enter Try.func55, Try.ntmps55
  go_upto_if 8 with (fail)
  go_cut [5] (fun v5 wc => ∃ (kq : Nat) (x5_2 : Int), v5 = .int .i64 x5_2 ∧ Aside0 (psalteryref03_of.j0 kq a1 x5_2 = some r) ∧ Aside0 (kq ≤ k) ∧ Aside0 (Below w.heap.size w wc))
  case first =>
    have H := HC3.out
    clear HC3
    by_cases c4 : a0 < 0
    · rw [if_pos c4] at H
      have c4b0 : decide (a0 < 0) = true := decide_eq_true c4
      clear c4
      (first | rw [c4b0] | (simp only [i64_w, i32_w]; rw [c4b0]) | skip)
      have H' := Aside0.mk H
      clear H
      go_wp2
      go_meet
      case rel => exact ⟨_, (wrap64 (a0 + a1)), (by first | rfl | (simp; done) | (simp [*]; done)), H', ⟨by first | omega | exact Nat.le_refl _⟩, ⟨by repeat (first | (with_reducible first | exact HB.out | apply below_alloc | apply pw_below_drewN | apply below_drew1) | exact HB.out)⟩⟩
    · rw [if_neg c4] at H
      have c4b0 : decide (a0 < 0) = false := decide_eq_false c4
      clear c4
      (first | rw [c4b0] | (simp only [i64_w, i32_w]; rw [c4b0]) | skip)
      have H' := Aside0.mk H
      clear H
      go_wp2
      go_meet
      case rel => exact ⟨_, (a0), (by first | rfl | (simp; done) | (simp [*]; done)), H', ⟨by first | omega | exact Nat.le_refl _⟩, ⟨by repeat (first | (with_reducible first | exact HB.out | apply below_alloc | apply pw_below_drewN | apply below_drew1) | exact HB.out)⟩⟩
  case rest =>
    clear HC3
    try clear p2
    try clear c4
    try clear c4b0
    obtain ⟨kq, x5_2, rfl, HA, HJ2, HB⟩ := hcut
    cases kq with
    | zero => exact absurd HA.out (by simp [psalteryref03_of.j0])
    | succ kj2 =>
      have H := HA.out
      clear HA
      simp only [psalteryref03_of.j0] at H
      by_cases c5 : (wrap64 (2 * x5_2)) ≥ a1
      · rw [if_pos c5] at H
        have c5b0 : decide (a1 ≤ (wrap64 (2 * x5_2))) = true := decide_eq_true c5
        clear c5
        replace H := Option.bind_eq_some_iff.mp H
        obtain ⟨t127, A60, H⟩ := H
        replace H : (some t127) = some r := H
        have A6 := Aside0.mk A60
        clear A60
        obtain rfl := Option.some.inj H
        go_wp2_with (first | ((with_reducible refine gate_callee (f := 56) rfl ?_); refine goesL_ (some 21) rfl rfl Try.func56 (by kernel_rfl) rfl #[.int .i64 (wrap64 (x5_2 - (wrap64 (Int.tdiv a1 2)))), .int .i64 a1, .bool true] rfl (by (try simp only [List.map_toArray, List.map_cons, List.map_nil]); first | done | rfl | (simp only [List.length_drop, List.length_take]; rfl)) ?_; (with_reducible refine (psalteryref03_signed.calls kj2 (wrap64 (x5_2 - (wrap64 (Int.tdiv a1 2)))) a1 true t127 _ A6.out).mono ?_); rintro e w7 ⟨rfl, hb⟩; refine ⟨_, rfl, ?_⟩; have n0_ := Aside0.mk (below_step (by repeat (first | (with_reducible first | exact HB.out | apply below_alloc | apply pw_below_drewN | apply below_drew1) | exact HB.out)) hb); clear HB; have HB := n0_; clear n0_; (try clear hb); (try clear hb2); (try clear hk); (try clear hi)))
        go_ret
        exact ⟨by first | rfl | (simp [errW_none, errW_some] <;> rfl) | (simp [*, errW_none, errW_some] <;> rfl), by repeat (first | (with_reducible first | exact HB.out | apply below_alloc | apply pw_below_drewN | apply below_drew1) | exact HB.out)⟩
      · rw [if_neg c5] at H
        have c5b0 : decide (a1 ≤ (wrap64 (2 * x5_2))) = false := decide_eq_false c5
        clear c5
        replace H := Option.bind_eq_some_iff.mp H
        obtain ⟨t128, A80, H⟩ := H
        replace H : (some t128) = some r := H
        have A8 := Aside0.mk A80
        clear A80
        obtain rfl := Option.some.inj H
        go_wp2_with (first | ((with_reducible refine gate_callee (f := 56) rfl ?_); refine goesL_ (some 24) rfl rfl Try.func56 (by kernel_rfl) rfl #[.int .i64 x5_2, .int .i64 a1, .bool false] rfl (by (try simp only [List.map_toArray, List.map_cons, List.map_nil]); first | done | rfl | (simp only [List.length_drop, List.length_take]; rfl)) ?_; (with_reducible refine (psalteryref03_signed.calls kj2 x5_2 a1 false t128 _ A8.out).mono ?_); rintro e w9 ⟨rfl, hb⟩; refine ⟨_, rfl, ?_⟩; have n0_ := Aside0.mk (below_step (by repeat (first | (with_reducible first | exact HB.out | apply below_alloc | apply pw_below_drewN | apply below_drew1) | exact HB.out)) hb); clear HB; have HB := n0_; clear n0_; (try clear hb); (try clear hb2); (try clear hk); (try clear hi)))
        go_ret
        exact ⟨by first | rfl | (simp [errW_none, errW_some] <;> rfl) | (simp [*, errW_none, errW_some] <;> rfl), by repeat (first | (with_reducible first | exact HB.out | apply below_alloc | apply pw_below_drewN | apply below_drew1) | exact HB.out)⟩

/-! ### psalteryref03_Of: function 36 -/
def psalteryref03_Of.j0 : Nat → Int → Int → Int → Option (Int)
  | 0, _, _, _ => none
  | k + 1, x0, x1, x5 => if (wrap64 (2 * x5)) ≥ x1 then (if (Int.tmod x1 2) = 1 then (if x1 = 0 then (none) else ((psalteryref03_of.f k (wrap64 (2 * (Int.tmod x0 x1))) (wrap64 (2 * x1))).bind fun t129 => (some t129))) else ((psalteryref03_signed.f k (wrap64 (x5 - (wrap64 (Int.tdiv x1 2)))) x1 (decide ((wrap64 (2 * x5)) ≥ x1))).bind fun t130 => (some t130))) else ((psalteryref03_signed.f k x5 x1 (decide ((wrap64 (2 * x5)) ≥ x1))).bind fun t131 => (some t131))
def psalteryref03_Of.f (k : Nat) (a0 : Int) (a1 : Int) : Option (Int) := if a1 = 0 then (none) else (if (Int.tmod a0 a1) < 0 then (psalteryref03_Of.j0 k a0 a1 (wrap64 ((Int.tmod a0 a1) + a1))) else (psalteryref03_Of.j0 k a0 a1 (Int.tmod a0 a1)))
theorem psalteryref03_Of.mono_l : ∀ k, (∀ y0 y1 y2, LeO (psalteryref03_Of.j0 k y0 y1 y2) (psalteryref03_Of.j0 (k + 1) y0 y1 y2))
  | 0 => fun _ _ _ r h => by simp [psalteryref03_Of.j0] at h
  | k + 1 => by
    have ih0 := psalteryref03_Of.mono_l k
    · intro y0 y1 y2
      unfold psalteryref03_Of.j0
      repeat' first
      | (with_reducible exact ih0 _ _ _)
      | (with_reducible exact psalteryref03_of.mono _ _ _)
      | (with_reducible exact psalteryref03_signed.mono _ _ _ _)
      | (with_reducible exact LeO.refl _)
      | (with_reducible exact LeO.none _)
      | (with_reducible refine LeO.ite ?_ ?_)
      | (with_reducible refine LeO.bind ?_ (fun _ => ?_))
      | exact ih0 _ _ _
      | exact psalteryref03_of.mono _ _ _
      | exact psalteryref03_signed.mono _ _ _ _
      | exact LeO.none _
      | refine LeO.ite ?_ ?_
      | refine LeO.bind ?_ (fun _ => ?_)
theorem psalteryref03_Of.mono : ∀ a0 a1 k, LeO (psalteryref03_Of.f k a0 a1) (psalteryref03_Of.f (k + 1) a0 a1) := by
  intro a0 a1 k
  have ih0 := psalteryref03_Of.mono_l k
  unfold psalteryref03_Of.f
  repeat' first
      | (with_reducible exact ih0 _ _ _)
      | (with_reducible exact psalteryref03_of.mono _ _ _)
      | (with_reducible exact psalteryref03_signed.mono _ _ _ _)
      | (with_reducible exact LeO.refl _)
      | (with_reducible exact LeO.none _)
      | (with_reducible refine LeO.ite ?_ ?_)
      | (with_reducible refine LeO.bind ?_ (fun _ => ?_))
      | exact ih0 _ _ _
      | exact psalteryref03_of.mono _ _ _
      | exact psalteryref03_signed.mono _ _ _ _
      | exact LeO.none _
      | refine LeO.ite ?_ ?_
      | refine LeO.bind ?_ (fun _ => ?_)
set_option maxHeartbeats 8000000 in
set_option maxRecDepth 100000 in
theorem psalteryref03_Of.calls (k : Nat) (a0 : Int) (a1 : Int) (r : Int) (w : World) (h : psalteryref03_Of.f k a0 a1 = some r) :
    Calls Try.prog 36 #[.int .i64 a0, .int .i64 a1] w fun e w' => e = .returned (.int .i16 r) ∧ Below w.heap.size w w' := by
  have HB := Aside0.mk (Below.refl w.heap.size w)
  have H : (if a1 = 0 then (none) else (if (Int.tmod a0 a1) < 0 then (psalteryref03_Of.j0 k a0 a1 (wrap64 ((Int.tmod a0 a1) + a1))) else (psalteryref03_Of.j0 k a0 a1 (Int.tmod a0 a1)))) = some r := h
  clear h
  by_cases c3 : a1 = 0
  · rw [if_pos c3] at H
    exact absurd H (by simp)
  · rw [if_neg c3] at H
    have c3b0 : (a1 == 0) = false := beq_eq_false_iff_ne.mpr c3
    have c3b1 : (a1 != 0) = true := bne_iff_ne.mpr c3
    have HC4 := Aside0.mk H
    clear H
    go_enter Try.func36, Try.ntmps36
    go_upto_if 11 with (fail)
    go_cut [5] (fun v5 wc => ∃ (kq : Nat) (x5_3 : Int), v5 = .int .i64 x5_3 ∧ Aside0 (psalteryref03_Of.j0 kq a0 a1 x5_3 = some r) ∧ Aside0 (kq ≤ k) ∧ Aside0 (Below w.heap.size w wc))
    case first =>
      have H := HC4.out
      clear HC4
      by_cases c5 : (Int.tmod a0 a1) < 0
      · rw [if_pos c5] at H
        have c5b0 : decide ((Int.tmod a0 a1) < 0) = true := decide_eq_true c5
        clear c5
        (first | rw [c5b0] | (simp only [i64_w, i32_w]; rw [c5b0]) | skip)
        have H' := Aside0.mk H
        clear H
        go_wp2
        go_meet
        case rel => exact ⟨_, (wrap64 ((Int.tmod a0 a1) + a1)), (by first | rfl | (simp; done) | (simp [*]; done)), H', ⟨by first | omega | exact Nat.le_refl _⟩, ⟨by repeat (first | (with_reducible first | exact HB.out | apply below_alloc | apply pw_below_drewN | apply below_drew1) | exact HB.out)⟩⟩
      · rw [if_neg c5] at H
        have c5b0 : decide ((Int.tmod a0 a1) < 0) = false := decide_eq_false c5
        clear c5
        (first | rw [c5b0] | (simp only [i64_w, i32_w]; rw [c5b0]) | skip)
        have H' := Aside0.mk H
        clear H
        go_wp2
        go_meet
        case rel => exact ⟨_, (Int.tmod a0 a1), (by first | rfl | (simp; done) | (simp [*]; done)), H', ⟨by first | omega | exact Nat.le_refl _⟩, ⟨by repeat (first | (with_reducible first | exact HB.out | apply below_alloc | apply pw_below_drewN | apply below_drew1) | exact HB.out)⟩⟩
    case rest =>
      clear HC4
      try clear p2
      try clear c3
      try clear c3b0
      try clear c3b1
      try clear c5
      try clear c5b0
      obtain ⟨kq, x5_3, rfl, HA, HJ3, HB⟩ := hcut
      cases kq with
      | zero => exact absurd HA.out (by simp [psalteryref03_Of.j0])
      | succ kj3 =>
        have H := HA.out
        clear HA
        simp only [psalteryref03_Of.j0] at H
        by_cases c6 : (wrap64 (2 * x5_3)) ≥ a1
        · rw [if_pos c6] at H
          have c6b0 : decide (a1 ≤ (wrap64 (2 * x5_3))) = true := decide_eq_true c6
          clear c6
          by_cases c7 : (Int.tmod a1 2) = 1
          · rw [if_pos c7] at H
            have c7b0 : ((Int.tmod a1 2) == 1) = true := beq_iff_eq.mpr c7
            have c7b1 : ((Int.tmod a1 2) != 1) = false := bne_eq_false_iff_eq.mpr c7
            clear c7
            by_cases c8 : a1 = 0
            · rw [if_pos c8] at H
              exact absurd H (by simp)
            · rw [if_neg c8] at H
              have c8b0 : (a1 == 0) = false := beq_eq_false_iff_ne.mpr c8
              have c8b1 : (a1 != 0) = true := bne_iff_ne.mpr c8
              replace H := Option.bind_eq_some_iff.mp H
              obtain ⟨t129, A90, H⟩ := H
              replace H : (some t129) = some r := H
              have A9 := Aside0.mk A90
              clear A90
              obtain rfl := Option.some.inj H
              go_wp2_with (first | ((with_reducible refine gate_callee (f := 55) rfl ?_); refine goesL_ (some 33) rfl rfl Try.func55 (by kernel_rfl) rfl #[.int .i64 (wrap64 (2 * (Int.tmod a0 a1))), .int .i64 (wrap64 (2 * a1))] rfl (by (try simp only [List.map_toArray, List.map_cons, List.map_nil]); first | done | rfl | (simp only [List.length_drop, List.length_take]; rfl) | (simp [Act.eval]; first | assumption | exact of_decide_eq_true (by assumption) | exact Int.not_le.1 (of_decide_eq_false (by assumption)) | exact of_decide_eq_false (by assumption))) ?_; (with_reducible refine (psalteryref03_of.calls kj3 (wrap64 (2 * (Int.tmod a0 a1))) (wrap64 (2 * a1)) t129 _ A9.out).mono ?_); rintro e w10 ⟨rfl, hb⟩; refine ⟨_, rfl, ?_⟩; have n0_ := Aside0.mk (below_step (by repeat (first | (with_reducible first | exact HB.out | apply below_alloc | apply pw_below_drewN | apply below_drew1) | exact HB.out)) hb); clear HB; have HB := n0_; clear n0_; (try clear hb); (try clear hb2); (try clear hk); (try clear hi)))
              go_ret
              exact ⟨by first | rfl | (simp [errW_none, errW_some] <;> rfl) | (simp [*, errW_none, errW_some] <;> rfl), by repeat (first | (with_reducible first | exact HB.out | apply below_alloc | apply pw_below_drewN | apply below_drew1) | exact HB.out)⟩
          · rw [if_neg c7] at H
            have c7b0 : ((Int.tmod a1 2) == 1) = false := beq_eq_false_iff_ne.mpr c7
            have c7b1 : ((Int.tmod a1 2) != 1) = true := bne_iff_ne.mpr c7
            replace H := Option.bind_eq_some_iff.mp H
            obtain ⟨t130, A110, H⟩ := H
            replace H : (some t130) = some r := H
            have A11 := Aside0.mk A110
            clear A110
            obtain rfl := Option.some.inj H
            go_wp2_with (first | ((with_reducible refine gate_callee (f := 56) rfl ?_); refine goesL_ (some 37) rfl rfl Try.func56 (by kernel_rfl) rfl #[.int .i64 (wrap64 (x5_3 - (wrap64 (Int.tdiv a1 2)))), .int .i64 a1, .bool (decide ((wrap64 (2 * x5_3)) ≥ a1))] rfl (by (try simp only [List.map_toArray, List.map_cons, List.map_nil]); first | done | rfl | (simp only [List.length_drop, List.length_take]; rfl) | (simp [Act.eval]; first | assumption | exact of_decide_eq_true (by assumption) | exact Int.not_le.1 (of_decide_eq_false (by assumption)) | exact of_decide_eq_false (by assumption))) ?_; (with_reducible refine (psalteryref03_signed.calls kj3 (wrap64 (x5_3 - (wrap64 (Int.tdiv a1 2)))) a1 (decide ((wrap64 (2 * x5_3)) ≥ a1)) t130 _ A11.out).mono ?_); rintro e w12 ⟨rfl, hb⟩; refine ⟨_, rfl, ?_⟩; have n0_ := Aside0.mk (below_step (by repeat (first | (with_reducible first | exact HB.out | apply below_alloc | apply pw_below_drewN | apply below_drew1) | exact HB.out)) hb); clear HB; have HB := n0_; clear n0_; (try clear hb); (try clear hb2); (try clear hk); (try clear hi)))
            go_ret
            exact ⟨by first | rfl | (simp [errW_none, errW_some] <;> rfl) | (simp [*, errW_none, errW_some] <;> rfl), by repeat (first | (with_reducible first | exact HB.out | apply below_alloc | apply pw_below_drewN | apply below_drew1) | exact HB.out)⟩
        · rw [if_neg c6] at H
          have c6b0 : decide (a1 ≤ (wrap64 (2 * x5_3))) = false := decide_eq_false c6
          clear c6
          replace H := Option.bind_eq_some_iff.mp H
          obtain ⟨t131, A130, H⟩ := H
          replace H : (some t131) = some r := H
          have A13 := Aside0.mk A130
          clear A130
          obtain rfl := Option.some.inj H
          go_wp2_with (first | ((with_reducible refine gate_callee (f := 56) rfl ?_); refine goesL_ (some 37) rfl rfl Try.func56 (by kernel_rfl) rfl #[.int .i64 x5_3, .int .i64 a1, .bool (decide ((wrap64 (2 * x5_3)) ≥ a1))] rfl (by (try simp only [List.map_toArray, List.map_cons, List.map_nil]); first | done | rfl | (simp only [List.length_drop, List.length_take]; rfl) | (simp [Act.eval]; first | assumption | exact of_decide_eq_true (by assumption) | exact Int.not_le.1 (of_decide_eq_false (by assumption)) | exact of_decide_eq_false (by assumption))) ?_; (with_reducible refine (psalteryref03_signed.calls kj3 x5_3 a1 (decide ((wrap64 (2 * x5_3)) ≥ a1)) t131 _ A13.out).mono ?_); rintro e w14 ⟨rfl, hb⟩; refine ⟨_, rfl, ?_⟩; have n0_ := Aside0.mk (below_step (by repeat (first | (with_reducible first | exact HB.out | apply below_alloc | apply pw_below_drewN | apply below_drew1) | exact HB.out)) hb); clear HB; have HB := n0_; clear n0_; (try clear hb); (try clear hb2); (try clear hk); (try clear hi)))
          go_ret
          exact ⟨by first | rfl | (simp [errW_none, errW_some] <;> rfl) | (simp [*, errW_none, errW_some] <;> rfl), by repeat (first | (with_reducible first | exact HB.out | apply below_alloc | apply pw_below_drewN | apply below_drew1) | exact HB.out)⟩

/-! ### psalteryref03_Sine: function 25 -/
def psalteryref03_Sine.f (k : Nat) (a0 : Int) (a1 : Int) : Option (Int × Int) := if a1 < 1 then (some (0, 1)) else (if a1 > 1048576 then (some (0, 1)) else ((psalteryref03_Of.f k a0 a1).bind fun t132 => (some (t132, 0))))
theorem psalteryref03_Sine.mono : ∀ a0 a1 k, LeO (psalteryref03_Sine.f k a0 a1) (psalteryref03_Sine.f (k + 1) a0 a1) := by
  intro a0 a1 k
  unfold psalteryref03_Sine.f
  repeat' first
      | (with_reducible exact psalteryref03_Of.mono _ _ _)
      | (with_reducible exact LeO.refl _)
      | (with_reducible exact LeO.none _)
      | (with_reducible refine LeO.ite ?_ ?_)
      | (with_reducible refine LeO.bind ?_ (fun _ => ?_))
      | exact psalteryref03_Of.mono _ _ _
      | exact LeO.none _
      | refine LeO.ite ?_ ?_
      | refine LeO.bind ?_ (fun _ => ?_)
set_option maxHeartbeats 8000000 in
set_option maxRecDepth 100000 in
theorem psalteryref03_Sine.calls (k : Nat) (a0 : Int) (a1 : Int) (r1 : Int) (r2 : Int) (w : World) (h : psalteryref03_Sine.f k a0 a1 = some (r1, r2)) :
    Calls Try.prog 25 #[.int .i64 a0, .int .i64 a1] w fun e w' => e = .returned (.tuple #[.int .i16 r1, .int .i64 r2]) ∧ Below w.heap.size w w' := by
  have HB := Aside0.mk (Below.refl w.heap.size w)
  have H : (if a1 < 1 then (some (0, 1)) else (if a1 > 1048576 then (some (0, 1)) else ((psalteryref03_Of.f k a0 a1).bind fun t132 => (some (t132, 0))))) = some (r1, r2) := h
  clear h
  by_cases c3 : a1 < 1
  · rw [if_pos c3] at H
    have c3b0 : decide (a1 < 1) = true := decide_eq_true c3
    clear c3
    simp only [Option.some.injEq, Prod.mk.injEq] at H
    obtain ⟨rfl, rfl⟩ := H
    go_enter Try.func25, Try.ntmps25
    go_wp2
    go_ret2
    exact ⟨by first | rfl | (simp [errW_none, errW_some] <;> rfl) | (simp [*, errW_none, errW_some] <;> rfl), by repeat (first | (with_reducible first | exact HB.out | apply below_alloc | apply pw_below_drewN | apply below_drew1) | exact HB.out)⟩
  · rw [if_neg c3] at H
    have c3b0 : decide (a1 < 1) = false := decide_eq_false c3
    clear c3
    by_cases c4 : a1 > 1048576
    · rw [if_pos c4] at H
      have c4b0 : decide (1048576 < a1) = true := decide_eq_true c4
      clear c4
      simp only [Option.some.injEq, Prod.mk.injEq] at H
      obtain ⟨rfl, rfl⟩ := H
      go_enter Try.func25, Try.ntmps25
      go_wp2
      go_ret2
      exact ⟨by first | rfl | (simp [errW_none, errW_some] <;> rfl) | (simp [*, errW_none, errW_some] <;> rfl), by repeat (first | (with_reducible first | exact HB.out | apply below_alloc | apply pw_below_drewN | apply below_drew1) | exact HB.out)⟩
    · rw [if_neg c4] at H
      have c4b0 : decide (1048576 < a1) = false := decide_eq_false c4
      clear c4
      replace H := Option.bind_eq_some_iff.mp H
      obtain ⟨t132, A50, H⟩ := H
      replace H : (some (t132, 0)) = some (r1, r2) := H
      have A5 := Aside0.mk A50
      clear A50
      simp only [Option.some.injEq, Prod.mk.injEq] at H
      obtain ⟨rfl, rfl⟩ := H
      go_enter Try.func25, Try.ntmps25
      go_wp2_with (first | ((with_reducible refine gate_callee (f := 36) rfl ?_); refine goesL_ (some 14) rfl rfl Try.func36 (by kernel_rfl) rfl #[.int .i64 a0, .int .i64 a1] rfl (by (try simp only [List.map_toArray, List.map_cons, List.map_nil]); first | done | rfl | (simp only [List.length_drop, List.length_take]; rfl)) ?_; (with_reducible refine (psalteryref03_Of.calls k a0 a1 t132 _ A5.out).mono ?_); rintro e w6 ⟨rfl, hb⟩; refine ⟨_, rfl, ?_⟩; have n0_ := Aside0.mk (below_step (by repeat (first | (with_reducible first | exact HB.out | apply below_alloc | apply pw_below_drewN | apply below_drew1) | exact HB.out)) hb); clear HB; have HB := n0_; clear n0_; (try clear hb); (try clear hb2); (try clear hk); (try clear hi)))
      go_ret2
      exact ⟨by first | rfl | (simp [errW_none, errW_some] <;> rfl) | (simp [*, errW_none, errW_some] <;> rfl), by repeat (first | (with_reducible first | exact HB.out | apply below_alloc | apply pw_below_drewN | apply below_drew1) | exact HB.out)⟩

/-! ### wave_Cosine: function 26 -/
def wave_Cosine.j0 : Nat → Int → Int → Bool → Option (Int × Int)
  | 0, _, _, _ => none
  | k + 1, x0, x1, x11 => if x11 = true then (some (0, 1)) else ((wave_modulo.f x0 x1).bind fun t133 => ((wave_sine.f k (wrap64 ((wrap64 (4 * t133)) + x1)) (wrap64 (4 * x1))).bind fun t134 => (some (t134, 0))))
def wave_Cosine.f (k : Nat) (a0 : Int) (a1 : Int) : Option (Int × Int) := if a1 < 1 then (wave_Cosine.j0 k a0 a1 true) else (wave_Cosine.j0 k a0 a1 (decide (a1 > 1048576)))
theorem wave_Cosine.mono_l : ∀ k, (∀ y0 y1 y2, LeO (wave_Cosine.j0 k y0 y1 y2) (wave_Cosine.j0 (k + 1) y0 y1 y2))
  | 0 => fun _ _ _ r h => by simp [wave_Cosine.j0] at h
  | k + 1 => by
    have ih0 := wave_Cosine.mono_l k
    · intro y0 y1 y2
      unfold wave_Cosine.j0
      repeat' first
      | (with_reducible exact ih0 _ _ _)
      | (with_reducible exact wave_sine.mono _ _ _)
      | (with_reducible exact LeO.refl _)
      | (with_reducible exact LeO.none _)
      | (with_reducible refine LeO.ite ?_ ?_)
      | (with_reducible refine LeO.bind ?_ (fun _ => ?_))
      | exact ih0 _ _ _
      | exact wave_sine.mono _ _ _
      | exact LeO.none _
      | refine LeO.ite ?_ ?_
      | refine LeO.bind ?_ (fun _ => ?_)
theorem wave_Cosine.mono : ∀ a0 a1 k, LeO (wave_Cosine.f k a0 a1) (wave_Cosine.f (k + 1) a0 a1) := by
  intro a0 a1 k
  have ih0 := wave_Cosine.mono_l k
  unfold wave_Cosine.f
  repeat' first
      | (with_reducible exact ih0 _ _ _)
      | (with_reducible exact wave_sine.mono _ _ _)
      | (with_reducible exact LeO.refl _)
      | (with_reducible exact LeO.none _)
      | (with_reducible refine LeO.ite ?_ ?_)
      | (with_reducible refine LeO.bind ?_ (fun _ => ?_))
      | exact ih0 _ _ _
      | exact wave_sine.mono _ _ _
      | exact LeO.none _
      | refine LeO.ite ?_ ?_
      | refine LeO.bind ?_ (fun _ => ?_)
set_option maxHeartbeats 8000000 in
set_option maxRecDepth 100000 in
theorem wave_Cosine.calls (k : Nat) (a0 : Int) (a1 : Int) (r1 : Int) (r2 : Int) (w : World) (h : wave_Cosine.f k a0 a1 = some (r1, r2)) :
    Calls Try.prog 26 #[.int .i64 a0, .int .i64 a1] w fun e w' => e = .returned (.tuple #[.int .i16 r1, .int .i64 r2]) ∧ Drawn0 w w' := by
  have H : (if a1 < 1 then (wave_Cosine.j0 k a0 a1 true) else (wave_Cosine.j0 k a0 a1 (decide (a1 > 1048576)))) = some (r1, r2) := h
  clear h
  have HC3 := Aside0.mk H
  clear H
  go_enter Try.func26, Try.ntmps26
  go_upto_region 1 with (fail)
  go_cut [11] (fun v11 wc => ∃ (kq : Nat) (x11_2 : Bool), v11 = .bool x11_2 ∧ Aside0 (wave_Cosine.j0 kq a0 a1 x11_2 = some (r1, r2)) ∧ Aside0 (kq ≤ k) ∧ Drawn0 w wc)
  case first =>
    have H := HC3.out
    clear HC3
    by_cases c4 : a1 < 1
    · rw [if_pos c4] at H
      have c4b0 : decide (a1 < 1) = true := decide_eq_true c4
      clear c4
      (first | rw [c4b0] | (simp only [i64_w, i32_w]; rw [c4b0]) | skip)
      have H' := Aside0.mk H
      clear H
      go_wp2
      go_meet
      case rel => exact ⟨_, (true), (by first | rfl | (simp; done) | (simp [*]; done)), H', ⟨by first | omega | exact Nat.le_refl _⟩, by repeat (first | exact Drawn0.refl _ | apply Drawn0.step)⟩
    · rw [if_neg c4] at H
      have c4b0 : decide (a1 < 1) = false := decide_eq_false c4
      clear c4
      (first | rw [c4b0] | (simp only [i64_w, i32_w]; rw [c4b0]) | skip)
      have H' := Aside0.mk H
      clear H
      go_wp2
      go_meet
      case rel => exact ⟨_, (decide (a1 > 1048576)), (by first | rfl | (simp; done) | (simp [*]; done)), H', ⟨by first | omega | exact Nat.le_refl _⟩, by repeat (first | exact Drawn0.refl _ | apply Drawn0.step)⟩
  case rest =>
    clear HC3
    try clear c2
    try clear p2
    try clear c4
    try clear c4b0
    obtain ⟨kq, x11_2, rfl, HA, HJ2, ⟨mc2, rfl⟩⟩ := hcut
    cases kq with
    | zero => exact absurd HA.out (by simp [wave_Cosine.j0])
    | succ kj2 =>
      have H := HA.out
      clear HA
      simp only [wave_Cosine.j0] at H
      by_cases c5 : x11_2 = true
      · subst c5
        have H1 : (some (0, 1)) = some (r1, r2) := by rw [if_pos rfl] at H; exact H
        clear H
        have H := H1
        clear H1
        simp only [Option.some.injEq, Prod.mk.injEq] at H
        obtain ⟨rfl, rfl⟩ := H
        go_wp2
        go_ret2
        exact ⟨by first | rfl | (simp; done) | (simp [*]; done), by repeat (first | exact Drawn0.refl _ | apply Drawn0.step)⟩
      · replace c5 := Bool.eq_false_iff.mpr c5
        subst c5
        have H1 : ((wave_modulo.f a0 a1).bind fun t133 => ((wave_sine.f kj2 (wrap64 ((wrap64 (4 * t133)) + a1)) (wrap64 (4 * a1))).bind fun t134 => (some (t134, 0)))) = some (r1, r2) := by rw [if_neg (show ¬ (false = true) by decide)] at H; exact H
        clear H
        have H := H1
        clear H1
        replace H := Option.bind_eq_some_iff.mp H
        obtain ⟨t133, A60, H⟩ := H
        replace H : ((wave_sine.f kj2 (wrap64 ((wrap64 (4 * t133)) + a1)) (wrap64 (4 * a1))).bind fun t134 => (some (t134, 0))) = some (r1, r2) := H
        have A6 := Aside0.mk A60
        clear A60
        replace H := Option.bind_eq_some_iff.mp H
        obtain ⟨t134, A70, H⟩ := H
        replace H : (some (t134, 0)) = some (r1, r2) := H
        have A7 := Aside0.mk A70
        clear A70
        simp only [Option.some.injEq, Prod.mk.injEq] at H
        obtain ⟨rfl, rfl⟩ := H
        go_wp2_with (first | ((with_reducible refine gate_callee (f := 53) rfl ?_); refine goesL_ (some 14) rfl rfl Try.func53 (by kernel_rfl) rfl #[.int .i64 a0, .int .i64 a1] rfl (by (try simp only [List.map_toArray, List.map_cons, List.map_nil]); first | done | rfl | (simp only [List.length_drop, List.length_take]; rfl)) ?_; (with_reducible refine (wave_modulo.calls a0 a1 t133 _ A6.out).mono ?_); rintro e w' ⟨rfl, ⟨nd, rfl⟩⟩; refine ⟨_, rfl, ?_⟩) | ((with_reducible refine gate_callee (f := 52) rfl ?_); refine goesL_ (some 20) rfl rfl Try.func52 (by kernel_rfl) rfl #[.int .i64 (wrap64 ((wrap64 (4 * t133)) + a1)), .int .i64 (wrap64 (4 * a1))] rfl (by (try simp only [List.map_toArray, List.map_cons, List.map_nil]); first | done | rfl | (simp only [List.length_drop, List.length_take]; rfl)) ?_; (with_reducible refine (wave_sine.calls kj2 (wrap64 ((wrap64 (4 * t133)) + a1)) (wrap64 (4 * a1)) t134 _ A7.out).mono ?_); rintro e w' ⟨rfl, ⟨nd, rfl⟩⟩; refine ⟨_, rfl, ?_⟩))
        go_ret2
        exact ⟨by first | rfl | (simp; done) | (simp [*]; done), by repeat (first | exact Drawn0.refl _ | apply Drawn0.step)⟩

/-! ### psalteryref03_Cosine: function 27 -/
def psalteryref03_Cosine.f (k : Nat) (a0 : Int) (a1 : Int) : Option (Int × Int) := if a1 < 1 then (some (0, 1)) else (if a1 > 1048576 then (some (0, 1)) else (if a1 = 0 then (none) else ((psalteryref03_Of.f k (wrap64 ((wrap64 (4 * (Int.tmod a0 a1))) + a1)) (wrap64 (4 * a1))).bind fun t135 => (some (t135, 0)))))
theorem psalteryref03_Cosine.mono : ∀ a0 a1 k, LeO (psalteryref03_Cosine.f k a0 a1) (psalteryref03_Cosine.f (k + 1) a0 a1) := by
  intro a0 a1 k
  unfold psalteryref03_Cosine.f
  repeat' first
      | (with_reducible exact psalteryref03_Of.mono _ _ _)
      | (with_reducible exact LeO.refl _)
      | (with_reducible exact LeO.none _)
      | (with_reducible refine LeO.ite ?_ ?_)
      | (with_reducible refine LeO.bind ?_ (fun _ => ?_))
      | exact psalteryref03_Of.mono _ _ _
      | exact LeO.none _
      | refine LeO.ite ?_ ?_
      | refine LeO.bind ?_ (fun _ => ?_)
set_option maxHeartbeats 8000000 in
set_option maxRecDepth 100000 in
theorem psalteryref03_Cosine.calls (k : Nat) (a0 : Int) (a1 : Int) (r1 : Int) (r2 : Int) (w : World) (h : psalteryref03_Cosine.f k a0 a1 = some (r1, r2)) :
    Calls Try.prog 27 #[.int .i64 a0, .int .i64 a1] w fun e w' => e = .returned (.tuple #[.int .i16 r1, .int .i64 r2]) ∧ Below w.heap.size w w' := by
  have HB := Aside0.mk (Below.refl w.heap.size w)
  have H : (if a1 < 1 then (some (0, 1)) else (if a1 > 1048576 then (some (0, 1)) else (if a1 = 0 then (none) else ((psalteryref03_Of.f k (wrap64 ((wrap64 (4 * (Int.tmod a0 a1))) + a1)) (wrap64 (4 * a1))).bind fun t135 => (some (t135, 0)))))) = some (r1, r2) := h
  clear h
  by_cases c3 : a1 < 1
  · rw [if_pos c3] at H
    have c3b0 : decide (a1 < 1) = true := decide_eq_true c3
    clear c3
    simp only [Option.some.injEq, Prod.mk.injEq] at H
    obtain ⟨rfl, rfl⟩ := H
    go_enter Try.func27, Try.ntmps27
    go_wp2
    go_ret2
    exact ⟨by first | rfl | (simp [errW_none, errW_some] <;> rfl) | (simp [*, errW_none, errW_some] <;> rfl), by repeat (first | (with_reducible first | exact HB.out | apply below_alloc | apply pw_below_drewN | apply below_drew1) | exact HB.out)⟩
  · rw [if_neg c3] at H
    have c3b0 : decide (a1 < 1) = false := decide_eq_false c3
    clear c3
    by_cases c4 : a1 > 1048576
    · rw [if_pos c4] at H
      have c4b0 : decide (1048576 < a1) = true := decide_eq_true c4
      clear c4
      simp only [Option.some.injEq, Prod.mk.injEq] at H
      obtain ⟨rfl, rfl⟩ := H
      go_enter Try.func27, Try.ntmps27
      go_wp2
      go_ret2
      exact ⟨by first | rfl | (simp [errW_none, errW_some] <;> rfl) | (simp [*, errW_none, errW_some] <;> rfl), by repeat (first | (with_reducible first | exact HB.out | apply below_alloc | apply pw_below_drewN | apply below_drew1) | exact HB.out)⟩
    · rw [if_neg c4] at H
      have c4b0 : decide (1048576 < a1) = false := decide_eq_false c4
      clear c4
      by_cases c5 : a1 = 0
      · rw [if_pos c5] at H
        exact absurd H (by simp)
      · rw [if_neg c5] at H
        have c5b0 : (a1 == 0) = false := beq_eq_false_iff_ne.mpr c5
        have c5b1 : (a1 != 0) = true := bne_iff_ne.mpr c5
        replace H := Option.bind_eq_some_iff.mp H
        obtain ⟨t135, A60, H⟩ := H
        replace H : (some (t135, 0)) = some (r1, r2) := H
        have A6 := Aside0.mk A60
        clear A60
        simp only [Option.some.injEq, Prod.mk.injEq] at H
        obtain ⟨rfl, rfl⟩ := H
        go_enter Try.func27, Try.ntmps27
        go_wp2_with (first | ((with_reducible refine gate_callee (f := 36) rfl ?_); refine goesL_ (some 22) rfl rfl Try.func36 (by kernel_rfl) rfl #[.int .i64 (wrap64 ((wrap64 (4 * (Int.tmod a0 a1))) + a1)), .int .i64 (wrap64 (4 * a1))] rfl (by (try simp only [List.map_toArray, List.map_cons, List.map_nil]); first | done | rfl | (simp only [List.length_drop, List.length_take]; rfl)) ?_; (with_reducible refine (psalteryref03_Of.calls k (wrap64 ((wrap64 (4 * (Int.tmod a0 a1))) + a1)) (wrap64 (4 * a1)) t135 _ A6.out).mono ?_); rintro e w7 ⟨rfl, hb⟩; refine ⟨_, rfl, ?_⟩; have n0_ := Aside0.mk (below_step (by repeat (first | (with_reducible first | exact HB.out | apply below_alloc | apply pw_below_drewN | apply below_drew1) | exact HB.out)) hb); clear HB; have HB := n0_; clear n0_; (try clear hb); (try clear hb2); (try clear hk); (try clear hi)))
        go_ret2
        exact ⟨by first | rfl | (simp [errW_none, errW_some] <;> rfl) | (simp [*, errW_none, errW_some] <;> rfl), by repeat (first | (with_reducible first | exact HB.out | apply below_alloc | apply pw_below_drewN | apply below_drew1) | exact HB.out)⟩

/-! ### psalterylaw03_WaveSines: function 5 -/
def psalterylaw03_WaveSines.f (k : Nat) (a0 : Int) (a1 : Int) : Option (Bool) := (psalterylaw03_alive.f k).bind fun t136 => (if t136 = true then ((wave_Sine.f k a0 a1).bind fun bt137 => ((psalteryref03_Sine.f k a0 a1).bind fun bt139 => ((wave_Cosine.f k a0 a1).bind fun bt141 => ((psalteryref03_Cosine.f k a0 a1).bind fun bt143 => (if bt137.1 = bt139.1 then (if bt137.2 = bt139.2 then (if bt141.1 = bt143.1 then (some (bt141.2 == bt143.2)) else (some false)) else (some false)) else (some false)))))) else (some false))
theorem psalterylaw03_WaveSines.mono : ∀ a0 a1 k, LeO (psalterylaw03_WaveSines.f k a0 a1) (psalterylaw03_WaveSines.f (k + 1) a0 a1) := by
  intro a0 a1 k
  unfold psalterylaw03_WaveSines.f
  repeat' first
      | (with_reducible exact psalterylaw03_alive.mono _)
      | (with_reducible exact psalteryref03_Cosine.mono _ _ _)
      | (with_reducible exact psalteryref03_Sine.mono _ _ _)
      | (with_reducible exact wave_Cosine.mono _ _ _)
      | (with_reducible exact wave_Sine.mono _ _ _)
      | (with_reducible exact LeO.refl _)
      | (with_reducible exact LeO.none _)
      | (with_reducible refine LeO.ite ?_ ?_)
      | (with_reducible refine LeO.bind ?_ (fun _ => ?_))
      | exact psalterylaw03_alive.mono _
      | exact psalteryref03_Cosine.mono _ _ _
      | exact psalteryref03_Sine.mono _ _ _
      | exact wave_Cosine.mono _ _ _
      | exact wave_Sine.mono _ _ _
      | exact LeO.none _
      | refine LeO.ite ?_ ?_
      | refine LeO.bind ?_ (fun _ => ?_)
set_option maxHeartbeats 8000000 in
set_option maxRecDepth 100000 in
theorem psalterylaw03_WaveSines.calls (k : Nat) (a0 : Int) (a1 : Int) (r : Bool) (w : World) (h : psalterylaw03_WaveSines.f k a0 a1 = some r) :
    Calls Try.prog 5 #[.int .i64 a0, .int .i64 a1] w fun e w' => e = .returned (.bool r) ∧ Below w.heap.size w w' := by
  have HB := Aside0.mk (Below.refl w.heap.size w)
  have H : ((psalterylaw03_alive.f k).bind fun t136 => (if t136 = true then ((wave_Sine.f k a0 a1).bind fun bt137 => ((psalteryref03_Sine.f k a0 a1).bind fun bt139 => ((wave_Cosine.f k a0 a1).bind fun bt141 => ((psalteryref03_Cosine.f k a0 a1).bind fun bt143 => (if bt137.1 = bt139.1 then (if bt137.2 = bt139.2 then (if bt141.1 = bt143.1 then (some (bt141.2 == bt143.2)) else (some false)) else (some false)) else (some false)))))) else (some false))) = some r := h
  clear h
  replace H := Option.bind_eq_some_iff.mp H
  obtain ⟨t136, A30, H⟩ := H
  replace H : (if t136 = true then ((wave_Sine.f k a0 a1).bind fun bt137 => ((psalteryref03_Sine.f k a0 a1).bind fun bt139 => ((wave_Cosine.f k a0 a1).bind fun bt141 => ((psalteryref03_Cosine.f k a0 a1).bind fun bt143 => (if bt137.1 = bt139.1 then (if bt137.2 = bt139.2 then (if bt141.1 = bt143.1 then (some (bt141.2 == bt143.2)) else (some false)) else (some false)) else (some false)))))) else (some false)) = some r := H
  have A3 := Aside0.mk A30
  clear A30
  by_cases c4 : t136 = true
  · subst c4
    have H1 : ((wave_Sine.f k a0 a1).bind fun bt137 => ((psalteryref03_Sine.f k a0 a1).bind fun bt139 => ((wave_Cosine.f k a0 a1).bind fun bt141 => ((psalteryref03_Cosine.f k a0 a1).bind fun bt143 => (if bt137.1 = bt139.1 then (if bt137.2 = bt139.2 then (if bt141.1 = bt143.1 then (some (bt141.2 == bt143.2)) else (some false)) else (some false)) else (some false)))))) = some r := by rw [if_pos rfl] at H; exact H
    clear H
    have H := H1
    clear H1
    replace H := Option.bind_eq_some_iff.mp H
    obtain ⟨⟨t137, t138⟩, A50, H⟩ := H
    replace H : ((psalteryref03_Sine.f k a0 a1).bind fun bt139 => ((wave_Cosine.f k a0 a1).bind fun bt141 => ((psalteryref03_Cosine.f k a0 a1).bind fun bt143 => (if t137 = bt139.1 then (if t138 = bt139.2 then (if bt141.1 = bt143.1 then (some (bt141.2 == bt143.2)) else (some false)) else (some false)) else (some false))))) = some r := H
    have A5 := Aside0.mk A50
    clear A50
    replace H := Option.bind_eq_some_iff.mp H
    obtain ⟨⟨t139, t140⟩, A60, H⟩ := H
    replace H : ((wave_Cosine.f k a0 a1).bind fun bt141 => ((psalteryref03_Cosine.f k a0 a1).bind fun bt143 => (if t137 = t139 then (if t138 = t140 then (if bt141.1 = bt143.1 then (some (bt141.2 == bt143.2)) else (some false)) else (some false)) else (some false)))) = some r := H
    have A6 := Aside0.mk A60
    clear A60
    replace H := Option.bind_eq_some_iff.mp H
    obtain ⟨⟨t141, t142⟩, A70, H⟩ := H
    replace H : ((psalteryref03_Cosine.f k a0 a1).bind fun bt143 => (if t137 = t139 then (if t138 = t140 then (if t141 = bt143.1 then (some (t142 == bt143.2)) else (some false)) else (some false)) else (some false))) = some r := H
    have A7 := Aside0.mk A70
    clear A70
    replace H := Option.bind_eq_some_iff.mp H
    obtain ⟨⟨t143, t144⟩, A80, H⟩ := H
    replace H : (if t137 = t139 then (if t138 = t140 then (if t141 = t143 then (some (t142 == t144)) else (some false)) else (some false)) else (some false)) = some r := H
    have A8 := Aside0.mk A80
    clear A80
    by_cases c9 : t137 = t139
    · rw [if_pos c9] at H
      have c9b0 : (t137 == t139) = true := beq_iff_eq.mpr c9
      have c9b1 : (t137 != t139) = false := bne_eq_false_iff_eq.mpr c9
      clear c9
      by_cases c10 : t138 = t140
      · rw [if_pos c10] at H
        have c10b0 : (t138 == t140) = true := beq_iff_eq.mpr c10
        have c10b1 : (t138 != t140) = false := bne_eq_false_iff_eq.mpr c10
        clear c10
        by_cases c11 : t141 = t143
        · rw [if_pos c11] at H
          have c11b0 : (t141 == t143) = true := beq_iff_eq.mpr c11
          have c11b1 : (t141 != t143) = false := bne_eq_false_iff_eq.mpr c11
          clear c11
          obtain rfl := Option.some.inj H
          go_enter Try.func5, Try.ntmps5
          go_wp2_with (first | ((with_reducible refine gate_callee (f := 23) rfl ?_); refine goesL_ (some 13) rfl rfl Try.func23 (by kernel_rfl) rfl #[] rfl (by (try simp only [List.map_toArray, List.map_cons, List.map_nil]); first | done | rfl | (simp only [List.length_drop, List.length_take]; rfl)) ?_; (with_reducible refine (psalterylaw03_alive.calls k  true _ A3.out).mono ?_); rintro e w' ⟨rfl, ⟨nd, rfl⟩⟩; refine ⟨_, rfl, ?_⟩) | ((with_reducible refine gate_callee (f := 24) rfl ?_); refine goesL_ (some 18) rfl rfl Try.func24 (by kernel_rfl) rfl #[.int .i64 a0, .int .i64 a1] rfl (by (try simp only [List.map_toArray, List.map_cons, List.map_nil]); first | done | rfl | (simp only [List.length_drop, List.length_take]; rfl)) ?_; (with_reducible refine (wave_Sine.calls k a0 a1 t137 t138 _ A5.out).mono ?_); rintro e w' ⟨rfl, ⟨nd, rfl⟩⟩; refine ⟨_, rfl, ?_⟩) | ((with_reducible refine gate_callee (f := 25) rfl ?_); refine goesL_ (some 24) rfl rfl Try.func25 (by kernel_rfl) rfl #[.int .i64 a0, .int .i64 a1] rfl (by (try simp only [List.map_toArray, List.map_cons, List.map_nil]); first | done | rfl | (simp only [List.length_drop, List.length_take]; rfl)) ?_; (with_reducible refine (psalteryref03_Sine.calls k a0 a1 t139 t140 _ A6.out).mono ?_); rintro e w12 ⟨rfl, hb⟩; refine ⟨_, rfl, ?_⟩; have n0_ := Aside0.mk (below_step (by repeat (first | (with_reducible first | exact HB.out | apply below_alloc | apply pw_below_drewN | apply below_drew1) | exact HB.out)) hb); clear HB; have HB := n0_; clear n0_; (try clear hb); (try clear hb2); (try clear hk); (try clear hi)) | ((with_reducible refine gate_callee (f := 26) rfl ?_); refine goesL_ (some 30) rfl rfl Try.func26 (by kernel_rfl) rfl #[.int .i64 a0, .int .i64 a1] rfl (by (try simp only [List.map_toArray, List.map_cons, List.map_nil]); first | done | rfl | (simp only [List.length_drop, List.length_take]; rfl)) ?_; (with_reducible refine (wave_Cosine.calls k a0 a1 t141 t142 _ A7.out).mono ?_); rintro e w' ⟨rfl, ⟨nd, rfl⟩⟩; refine ⟨_, rfl, ?_⟩) | ((with_reducible refine gate_callee (f := 27) rfl ?_); refine goesL_ (some 36) rfl rfl Try.func27 (by kernel_rfl) rfl #[.int .i64 a0, .int .i64 a1] rfl (by (try simp only [List.map_toArray, List.map_cons, List.map_nil]); first | done | rfl | (simp only [List.length_drop, List.length_take]; rfl)) ?_; (with_reducible refine (psalteryref03_Cosine.calls k a0 a1 t143 t144 _ A8.out).mono ?_); rintro e w13 ⟨rfl, hb⟩; refine ⟨_, rfl, ?_⟩; have n0_ := Aside0.mk (below_step (by repeat (first | (with_reducible first | exact HB.out | apply below_alloc | apply pw_below_drewN | apply below_drew1) | exact HB.out)) hb); clear HB; have HB := n0_; clear n0_; (try clear hb); (try clear hb2); (try clear hk); (try clear hi)))
          go_ret
          exact ⟨by first | rfl | (simp [errW_none, errW_some] <;> rfl) | (simp [*, errW_none, errW_some] <;> rfl), by repeat (first | (with_reducible first | exact HB.out | apply below_alloc | apply pw_below_drewN | apply below_drew1) | exact HB.out)⟩
        · rw [if_neg c11] at H
          have c11b0 : (t141 == t143) = false := beq_eq_false_iff_ne.mpr c11
          have c11b1 : (t141 != t143) = true := bne_iff_ne.mpr c11
          obtain rfl := Option.some.inj H
          go_enter Try.func5, Try.ntmps5
          go_wp2_with (first | ((with_reducible refine gate_callee (f := 23) rfl ?_); refine goesL_ (some 13) rfl rfl Try.func23 (by kernel_rfl) rfl #[] rfl (by (try simp only [List.map_toArray, List.map_cons, List.map_nil]); first | done | rfl | (simp only [List.length_drop, List.length_take]; rfl)) ?_; (with_reducible refine (psalterylaw03_alive.calls k  true _ A3.out).mono ?_); rintro e w' ⟨rfl, ⟨nd, rfl⟩⟩; refine ⟨_, rfl, ?_⟩) | ((with_reducible refine gate_callee (f := 24) rfl ?_); refine goesL_ (some 18) rfl rfl Try.func24 (by kernel_rfl) rfl #[.int .i64 a0, .int .i64 a1] rfl (by (try simp only [List.map_toArray, List.map_cons, List.map_nil]); first | done | rfl | (simp only [List.length_drop, List.length_take]; rfl)) ?_; (with_reducible refine (wave_Sine.calls k a0 a1 t137 t138 _ A5.out).mono ?_); rintro e w' ⟨rfl, ⟨nd, rfl⟩⟩; refine ⟨_, rfl, ?_⟩) | ((with_reducible refine gate_callee (f := 25) rfl ?_); refine goesL_ (some 24) rfl rfl Try.func25 (by kernel_rfl) rfl #[.int .i64 a0, .int .i64 a1] rfl (by (try simp only [List.map_toArray, List.map_cons, List.map_nil]); first | done | rfl | (simp only [List.length_drop, List.length_take]; rfl)) ?_; (with_reducible refine (psalteryref03_Sine.calls k a0 a1 t139 t140 _ A6.out).mono ?_); rintro e w14 ⟨rfl, hb⟩; refine ⟨_, rfl, ?_⟩; have n0_ := Aside0.mk (below_step (by repeat (first | (with_reducible first | exact HB.out | apply below_alloc | apply pw_below_drewN | apply below_drew1) | exact HB.out)) hb); clear HB; have HB := n0_; clear n0_; (try clear hb); (try clear hb2); (try clear hk); (try clear hi)) | ((with_reducible refine gate_callee (f := 26) rfl ?_); refine goesL_ (some 30) rfl rfl Try.func26 (by kernel_rfl) rfl #[.int .i64 a0, .int .i64 a1] rfl (by (try simp only [List.map_toArray, List.map_cons, List.map_nil]); first | done | rfl | (simp only [List.length_drop, List.length_take]; rfl)) ?_; (with_reducible refine (wave_Cosine.calls k a0 a1 t141 t142 _ A7.out).mono ?_); rintro e w' ⟨rfl, ⟨nd, rfl⟩⟩; refine ⟨_, rfl, ?_⟩) | ((with_reducible refine gate_callee (f := 27) rfl ?_); refine goesL_ (some 36) rfl rfl Try.func27 (by kernel_rfl) rfl #[.int .i64 a0, .int .i64 a1] rfl (by (try simp only [List.map_toArray, List.map_cons, List.map_nil]); first | done | rfl | (simp only [List.length_drop, List.length_take]; rfl)) ?_; (with_reducible refine (psalteryref03_Cosine.calls k a0 a1 t143 t144 _ A8.out).mono ?_); rintro e w15 ⟨rfl, hb⟩; refine ⟨_, rfl, ?_⟩; have n0_ := Aside0.mk (below_step (by repeat (first | (with_reducible first | exact HB.out | apply below_alloc | apply pw_below_drewN | apply below_drew1) | exact HB.out)) hb); clear HB; have HB := n0_; clear n0_; (try clear hb); (try clear hb2); (try clear hk); (try clear hi)))
          go_ret
          exact ⟨by first | rfl | (simp [errW_none, errW_some] <;> rfl) | (simp [*, errW_none, errW_some] <;> rfl), by repeat (first | (with_reducible first | exact HB.out | apply below_alloc | apply pw_below_drewN | apply below_drew1) | exact HB.out)⟩
      · rw [if_neg c10] at H
        have c10b0 : (t138 == t140) = false := beq_eq_false_iff_ne.mpr c10
        have c10b1 : (t138 != t140) = true := bne_iff_ne.mpr c10
        obtain rfl := Option.some.inj H
        go_enter Try.func5, Try.ntmps5
        go_wp2_with (first | ((with_reducible refine gate_callee (f := 23) rfl ?_); refine goesL_ (some 13) rfl rfl Try.func23 (by kernel_rfl) rfl #[] rfl (by (try simp only [List.map_toArray, List.map_cons, List.map_nil]); first | done | rfl | (simp only [List.length_drop, List.length_take]; rfl)) ?_; (with_reducible refine (psalterylaw03_alive.calls k  true _ A3.out).mono ?_); rintro e w' ⟨rfl, ⟨nd, rfl⟩⟩; refine ⟨_, rfl, ?_⟩) | ((with_reducible refine gate_callee (f := 24) rfl ?_); refine goesL_ (some 18) rfl rfl Try.func24 (by kernel_rfl) rfl #[.int .i64 a0, .int .i64 a1] rfl (by (try simp only [List.map_toArray, List.map_cons, List.map_nil]); first | done | rfl | (simp only [List.length_drop, List.length_take]; rfl)) ?_; (with_reducible refine (wave_Sine.calls k a0 a1 t137 t138 _ A5.out).mono ?_); rintro e w' ⟨rfl, ⟨nd, rfl⟩⟩; refine ⟨_, rfl, ?_⟩) | ((with_reducible refine gate_callee (f := 25) rfl ?_); refine goesL_ (some 24) rfl rfl Try.func25 (by kernel_rfl) rfl #[.int .i64 a0, .int .i64 a1] rfl (by (try simp only [List.map_toArray, List.map_cons, List.map_nil]); first | done | rfl | (simp only [List.length_drop, List.length_take]; rfl)) ?_; (with_reducible refine (psalteryref03_Sine.calls k a0 a1 t139 t140 _ A6.out).mono ?_); rintro e w16 ⟨rfl, hb⟩; refine ⟨_, rfl, ?_⟩; have n0_ := Aside0.mk (below_step (by repeat (first | (with_reducible first | exact HB.out | apply below_alloc | apply pw_below_drewN | apply below_drew1) | exact HB.out)) hb); clear HB; have HB := n0_; clear n0_; (try clear hb); (try clear hb2); (try clear hk); (try clear hi)) | ((with_reducible refine gate_callee (f := 26) rfl ?_); refine goesL_ (some 30) rfl rfl Try.func26 (by kernel_rfl) rfl #[.int .i64 a0, .int .i64 a1] rfl (by (try simp only [List.map_toArray, List.map_cons, List.map_nil]); first | done | rfl | (simp only [List.length_drop, List.length_take]; rfl)) ?_; (with_reducible refine (wave_Cosine.calls k a0 a1 t141 t142 _ A7.out).mono ?_); rintro e w' ⟨rfl, ⟨nd, rfl⟩⟩; refine ⟨_, rfl, ?_⟩) | ((with_reducible refine gate_callee (f := 27) rfl ?_); refine goesL_ (some 36) rfl rfl Try.func27 (by kernel_rfl) rfl #[.int .i64 a0, .int .i64 a1] rfl (by (try simp only [List.map_toArray, List.map_cons, List.map_nil]); first | done | rfl | (simp only [List.length_drop, List.length_take]; rfl)) ?_; (with_reducible refine (psalteryref03_Cosine.calls k a0 a1 t143 t144 _ A8.out).mono ?_); rintro e w17 ⟨rfl, hb⟩; refine ⟨_, rfl, ?_⟩; have n0_ := Aside0.mk (below_step (by repeat (first | (with_reducible first | exact HB.out | apply below_alloc | apply pw_below_drewN | apply below_drew1) | exact HB.out)) hb); clear HB; have HB := n0_; clear n0_; (try clear hb); (try clear hb2); (try clear hk); (try clear hi)))
        go_ret
        exact ⟨by first | rfl | (simp [errW_none, errW_some] <;> rfl) | (simp [*, errW_none, errW_some] <;> rfl), by repeat (first | (with_reducible first | exact HB.out | apply below_alloc | apply pw_below_drewN | apply below_drew1) | exact HB.out)⟩
    · rw [if_neg c9] at H
      have c9b0 : (t137 == t139) = false := beq_eq_false_iff_ne.mpr c9
      have c9b1 : (t137 != t139) = true := bne_iff_ne.mpr c9
      obtain rfl := Option.some.inj H
      go_enter Try.func5, Try.ntmps5
      go_wp2_with (first | ((with_reducible refine gate_callee (f := 23) rfl ?_); refine goesL_ (some 13) rfl rfl Try.func23 (by kernel_rfl) rfl #[] rfl (by (try simp only [List.map_toArray, List.map_cons, List.map_nil]); first | done | rfl | (simp only [List.length_drop, List.length_take]; rfl)) ?_; (with_reducible refine (psalterylaw03_alive.calls k  true _ A3.out).mono ?_); rintro e w' ⟨rfl, ⟨nd, rfl⟩⟩; refine ⟨_, rfl, ?_⟩) | ((with_reducible refine gate_callee (f := 24) rfl ?_); refine goesL_ (some 18) rfl rfl Try.func24 (by kernel_rfl) rfl #[.int .i64 a0, .int .i64 a1] rfl (by (try simp only [List.map_toArray, List.map_cons, List.map_nil]); first | done | rfl | (simp only [List.length_drop, List.length_take]; rfl)) ?_; (with_reducible refine (wave_Sine.calls k a0 a1 t137 t138 _ A5.out).mono ?_); rintro e w' ⟨rfl, ⟨nd, rfl⟩⟩; refine ⟨_, rfl, ?_⟩) | ((with_reducible refine gate_callee (f := 25) rfl ?_); refine goesL_ (some 24) rfl rfl Try.func25 (by kernel_rfl) rfl #[.int .i64 a0, .int .i64 a1] rfl (by (try simp only [List.map_toArray, List.map_cons, List.map_nil]); first | done | rfl | (simp only [List.length_drop, List.length_take]; rfl)) ?_; (with_reducible refine (psalteryref03_Sine.calls k a0 a1 t139 t140 _ A6.out).mono ?_); rintro e w18 ⟨rfl, hb⟩; refine ⟨_, rfl, ?_⟩; have n0_ := Aside0.mk (below_step (by repeat (first | (with_reducible first | exact HB.out | apply below_alloc | apply pw_below_drewN | apply below_drew1) | exact HB.out)) hb); clear HB; have HB := n0_; clear n0_; (try clear hb); (try clear hb2); (try clear hk); (try clear hi)) | ((with_reducible refine gate_callee (f := 26) rfl ?_); refine goesL_ (some 30) rfl rfl Try.func26 (by kernel_rfl) rfl #[.int .i64 a0, .int .i64 a1] rfl (by (try simp only [List.map_toArray, List.map_cons, List.map_nil]); first | done | rfl | (simp only [List.length_drop, List.length_take]; rfl)) ?_; (with_reducible refine (wave_Cosine.calls k a0 a1 t141 t142 _ A7.out).mono ?_); rintro e w' ⟨rfl, ⟨nd, rfl⟩⟩; refine ⟨_, rfl, ?_⟩) | ((with_reducible refine gate_callee (f := 27) rfl ?_); refine goesL_ (some 36) rfl rfl Try.func27 (by kernel_rfl) rfl #[.int .i64 a0, .int .i64 a1] rfl (by (try simp only [List.map_toArray, List.map_cons, List.map_nil]); first | done | rfl | (simp only [List.length_drop, List.length_take]; rfl)) ?_; (with_reducible refine (psalteryref03_Cosine.calls k a0 a1 t143 t144 _ A8.out).mono ?_); rintro e w19 ⟨rfl, hb⟩; refine ⟨_, rfl, ?_⟩; have n0_ := Aside0.mk (below_step (by repeat (first | (with_reducible first | exact HB.out | apply below_alloc | apply pw_below_drewN | apply below_drew1) | exact HB.out)) hb); clear HB; have HB := n0_; clear n0_; (try clear hb); (try clear hb2); (try clear hk); (try clear hi)))
      go_ret
      exact ⟨by first | rfl | (simp [errW_none, errW_some] <;> rfl) | (simp [*, errW_none, errW_some] <;> rfl), by repeat (first | (with_reducible first | exact HB.out | apply below_alloc | apply pw_below_drewN | apply below_drew1) | exact HB.out)⟩
  · replace c4 := Bool.eq_false_iff.mpr c4
    subst c4
    have H1 : (some false) = some r := by rw [if_neg (show ¬ (false = true) by decide)] at H; exact H
    clear H
    have H := H1
    clear H1
    obtain rfl := Option.some.inj H
    go_enter Try.func5, Try.ntmps5
    go_wp2_with (first | ((with_reducible refine gate_callee (f := 23) rfl ?_); refine goesL_ (some 13) rfl rfl Try.func23 (by kernel_rfl) rfl #[] rfl (by (try simp only [List.map_toArray, List.map_cons, List.map_nil]); first | done | rfl | (simp only [List.length_drop, List.length_take]; rfl)) ?_; (with_reducible refine (psalterylaw03_alive.calls k  false _ A3.out).mono ?_); rintro e w' ⟨rfl, ⟨nd, rfl⟩⟩; refine ⟨_, rfl, ?_⟩))
    go_ret
    exact ⟨by first | rfl | (simp [errW_none, errW_some] <;> rfl) | (simp [*, errW_none, errW_some] <;> rfl), by repeat (first | (with_reducible first | exact HB.out | apply below_alloc | apply pw_below_drewN | apply below_drew1) | exact HB.out)⟩

/-- THE ONE PURE STATEMENT of psalterylaw03_WaveSines: yours. -/
def psalterylaw03_WaveSines.Pure : Prop := ∀ (a0 : Int) (a1 : Int), (Lit.int .i64 a0).wf = true → (Lit.int .i64 a1).wf = true → ∃ k, psalterylaw03_WaveSines.f k a0 a1 = some true
theorem psalterylaw03_WaveSines.walk (P : psalterylaw03_WaveSines.Pure) (a0 : Int) (a1 : Int) (w : World) (w0 : (Lit.int .i64 a0).wf = true) (w1 : (Lit.int .i64 a1).wf = true) :
    Calls Try.prog 5 #[.int .i64 a0, .int .i64 a1] w fun e w' => e = .returned (.bool true) ∧ Below w.heap.size w w' := by
  obtain ⟨k, h⟩ := P a0 a1 w0 w1
  refine (psalterylaw03_WaveSines.calls k a0 a1 true w h).mono ?_
  rintro e w' ⟨rfl, hd⟩
  exact ⟨rfl, hd⟩

/-! ### psalterylaw03_WaveTurns: function 6 -/
def psalterylaw03_WaveTurns.f (k : Nat) (a0 : Int) (a1 : Int) (a2 : Int) : Option (Bool) := (psalterylaw03_alive.f k).bind fun t145 => (if t145 = true then ((wave_Sine.f k (wrap64 (a0)) (wrap64 (1 + (wrap64 (a1))))).bind fun bt146 => ((wave_Sine.f k (wrap64 (-(wrap64 (a0)))) (wrap64 (1 + (wrap64 (a1))))).bind fun bt148 => ((wave_Sine.f k (wrap64 ((wrap64 (a0)) + (wrap64 ((wrap64 (1 + (Int.tmod (wrap64 (a2)) 16))) * (wrap64 (1 + (wrap64 (a1)))))))) (wrap64 (1 + (wrap64 (a1))))).bind fun bt150 => ((wave_Sine.f k (wrap64 ((wrap64 (a0)) * (wrap64 (1 + (Int.tmod (wrap64 (a2)) 16))))) (wrap64 ((wrap64 (1 + (wrap64 (a1)))) * (wrap64 (1 + (Int.tmod (wrap64 (a2)) 16)))))).bind fun bt152 => ((wave_Cosine.f k (wrap64 (a0)) (wrap64 (1 + (wrap64 (a1))))).bind fun bt154 => (if bt146.2 = 0 then (if bt148.2 = 0 then (if bt150.2 = 0 then (if bt152.2 = 0 then (if bt154.2 = 0 then (if bt148.1 = (IntKind.i16.wrap (-bt146.1)) then (if bt150.1 = bt146.1 then (if bt152.1 = bt146.1 then (if (wrap64 ((wrap64 ((wrap64 ((wrap64 (bt146.1)) * (wrap64 (bt146.1)))) + (wrap64 ((wrap64 (bt154.1)) * (wrap64 (bt154.1)))))) - 1073741824)) ≤ 262144 then (some (decide ((wrap64 ((wrap64 ((wrap64 ((wrap64 (bt146.1)) * (wrap64 (bt146.1)))) + (wrap64 ((wrap64 (bt154.1)) * (wrap64 (bt154.1)))))) - 1073741824)) ≥ (-262144)))) else (some false)) else (some false)) else (some false)) else (some false)) else (some false)) else (some false)) else (some false)) else (some false)) else (some false))))))) else (some false))
theorem psalterylaw03_WaveTurns.mono : ∀ a0 a1 a2 k, LeO (psalterylaw03_WaveTurns.f k a0 a1 a2) (psalterylaw03_WaveTurns.f (k + 1) a0 a1 a2) := by
  intro a0 a1 a2 k
  unfold psalterylaw03_WaveTurns.f
  repeat' first
      | (with_reducible exact psalterylaw03_alive.mono _)
      | (with_reducible exact wave_Cosine.mono _ _ _)
      | (with_reducible exact wave_Sine.mono _ _ _)
      | (with_reducible exact LeO.refl _)
      | (with_reducible exact LeO.none _)
      | (with_reducible refine LeO.ite ?_ ?_)
      | (with_reducible refine LeO.bind ?_ (fun _ => ?_))
      | exact psalterylaw03_alive.mono _
      | exact wave_Cosine.mono _ _ _
      | exact wave_Sine.mono _ _ _
      | exact LeO.none _
      | refine LeO.ite ?_ ?_
      | refine LeO.bind ?_ (fun _ => ?_)
set_option maxHeartbeats 8000000 in
set_option maxRecDepth 100000 in
theorem psalterylaw03_WaveTurns.calls (k : Nat) (a0 : Int) (a1 : Int) (a2 : Int) (r : Bool) (w : World) (h : psalterylaw03_WaveTurns.f k a0 a1 a2 = some r) :
    Calls Try.prog 6 #[.int .i32 a0, .int .u16 a1, .int .u16 a2] w fun e w' => e = .returned (.bool r) ∧ Drawn0 w w' := by
  have H : ((psalterylaw03_alive.f k).bind fun t145 => (if t145 = true then ((wave_Sine.f k (wrap64 (a0)) (wrap64 (1 + (wrap64 (a1))))).bind fun bt146 => ((wave_Sine.f k (wrap64 (-(wrap64 (a0)))) (wrap64 (1 + (wrap64 (a1))))).bind fun bt148 => ((wave_Sine.f k (wrap64 ((wrap64 (a0)) + (wrap64 ((wrap64 (1 + (Int.tmod (wrap64 (a2)) 16))) * (wrap64 (1 + (wrap64 (a1)))))))) (wrap64 (1 + (wrap64 (a1))))).bind fun bt150 => ((wave_Sine.f k (wrap64 ((wrap64 (a0)) * (wrap64 (1 + (Int.tmod (wrap64 (a2)) 16))))) (wrap64 ((wrap64 (1 + (wrap64 (a1)))) * (wrap64 (1 + (Int.tmod (wrap64 (a2)) 16)))))).bind fun bt152 => ((wave_Cosine.f k (wrap64 (a0)) (wrap64 (1 + (wrap64 (a1))))).bind fun bt154 => (if bt146.2 = 0 then (if bt148.2 = 0 then (if bt150.2 = 0 then (if bt152.2 = 0 then (if bt154.2 = 0 then (if bt148.1 = (IntKind.i16.wrap (-bt146.1)) then (if bt150.1 = bt146.1 then (if bt152.1 = bt146.1 then (if (wrap64 ((wrap64 ((wrap64 ((wrap64 (bt146.1)) * (wrap64 (bt146.1)))) + (wrap64 ((wrap64 (bt154.1)) * (wrap64 (bt154.1)))))) - 1073741824)) ≤ 262144 then (some (decide ((wrap64 ((wrap64 ((wrap64 ((wrap64 (bt146.1)) * (wrap64 (bt146.1)))) + (wrap64 ((wrap64 (bt154.1)) * (wrap64 (bt154.1)))))) - 1073741824)) ≥ (-262144)))) else (some false)) else (some false)) else (some false)) else (some false)) else (some false)) else (some false)) else (some false)) else (some false)) else (some false))))))) else (some false))) = some r := h
  clear h
  replace H := Option.bind_eq_some_iff.mp H
  obtain ⟨t145, A40, H⟩ := H
  replace H : (if t145 = true then ((wave_Sine.f k (wrap64 (a0)) (wrap64 (1 + (wrap64 (a1))))).bind fun bt146 => ((wave_Sine.f k (wrap64 (-(wrap64 (a0)))) (wrap64 (1 + (wrap64 (a1))))).bind fun bt148 => ((wave_Sine.f k (wrap64 ((wrap64 (a0)) + (wrap64 ((wrap64 (1 + (Int.tmod (wrap64 (a2)) 16))) * (wrap64 (1 + (wrap64 (a1)))))))) (wrap64 (1 + (wrap64 (a1))))).bind fun bt150 => ((wave_Sine.f k (wrap64 ((wrap64 (a0)) * (wrap64 (1 + (Int.tmod (wrap64 (a2)) 16))))) (wrap64 ((wrap64 (1 + (wrap64 (a1)))) * (wrap64 (1 + (Int.tmod (wrap64 (a2)) 16)))))).bind fun bt152 => ((wave_Cosine.f k (wrap64 (a0)) (wrap64 (1 + (wrap64 (a1))))).bind fun bt154 => (if bt146.2 = 0 then (if bt148.2 = 0 then (if bt150.2 = 0 then (if bt152.2 = 0 then (if bt154.2 = 0 then (if bt148.1 = (IntKind.i16.wrap (-bt146.1)) then (if bt150.1 = bt146.1 then (if bt152.1 = bt146.1 then (if (wrap64 ((wrap64 ((wrap64 ((wrap64 (bt146.1)) * (wrap64 (bt146.1)))) + (wrap64 ((wrap64 (bt154.1)) * (wrap64 (bt154.1)))))) - 1073741824)) ≤ 262144 then (some (decide ((wrap64 ((wrap64 ((wrap64 ((wrap64 (bt146.1)) * (wrap64 (bt146.1)))) + (wrap64 ((wrap64 (bt154.1)) * (wrap64 (bt154.1)))))) - 1073741824)) ≥ (-262144)))) else (some false)) else (some false)) else (some false)) else (some false)) else (some false)) else (some false)) else (some false)) else (some false)) else (some false))))))) else (some false)) = some r := H
  have A4 := Aside0.mk A40
  clear A40
  by_cases c5 : t145 = true
  · subst c5
    have H1 : ((wave_Sine.f k (wrap64 (a0)) (wrap64 (1 + (wrap64 (a1))))).bind fun bt146 => ((wave_Sine.f k (wrap64 (-(wrap64 (a0)))) (wrap64 (1 + (wrap64 (a1))))).bind fun bt148 => ((wave_Sine.f k (wrap64 ((wrap64 (a0)) + (wrap64 ((wrap64 (1 + (Int.tmod (wrap64 (a2)) 16))) * (wrap64 (1 + (wrap64 (a1)))))))) (wrap64 (1 + (wrap64 (a1))))).bind fun bt150 => ((wave_Sine.f k (wrap64 ((wrap64 (a0)) * (wrap64 (1 + (Int.tmod (wrap64 (a2)) 16))))) (wrap64 ((wrap64 (1 + (wrap64 (a1)))) * (wrap64 (1 + (Int.tmod (wrap64 (a2)) 16)))))).bind fun bt152 => ((wave_Cosine.f k (wrap64 (a0)) (wrap64 (1 + (wrap64 (a1))))).bind fun bt154 => (if bt146.2 = 0 then (if bt148.2 = 0 then (if bt150.2 = 0 then (if bt152.2 = 0 then (if bt154.2 = 0 then (if bt148.1 = (IntKind.i16.wrap (-bt146.1)) then (if bt150.1 = bt146.1 then (if bt152.1 = bt146.1 then (if (wrap64 ((wrap64 ((wrap64 ((wrap64 (bt146.1)) * (wrap64 (bt146.1)))) + (wrap64 ((wrap64 (bt154.1)) * (wrap64 (bt154.1)))))) - 1073741824)) ≤ 262144 then (some (decide ((wrap64 ((wrap64 ((wrap64 ((wrap64 (bt146.1)) * (wrap64 (bt146.1)))) + (wrap64 ((wrap64 (bt154.1)) * (wrap64 (bt154.1)))))) - 1073741824)) ≥ (-262144)))) else (some false)) else (some false)) else (some false)) else (some false)) else (some false)) else (some false)) else (some false)) else (some false)) else (some false))))))) = some r := by rw [if_pos rfl] at H; exact H
    clear H
    have H := H1
    clear H1
    replace H := Option.bind_eq_some_iff.mp H
    obtain ⟨⟨t146, t147⟩, A60, H⟩ := H
    replace H : ((wave_Sine.f k (wrap64 (-(wrap64 (a0)))) (wrap64 (1 + (wrap64 (a1))))).bind fun bt148 => ((wave_Sine.f k (wrap64 ((wrap64 (a0)) + (wrap64 ((wrap64 (1 + (Int.tmod (wrap64 (a2)) 16))) * (wrap64 (1 + (wrap64 (a1)))))))) (wrap64 (1 + (wrap64 (a1))))).bind fun bt150 => ((wave_Sine.f k (wrap64 ((wrap64 (a0)) * (wrap64 (1 + (Int.tmod (wrap64 (a2)) 16))))) (wrap64 ((wrap64 (1 + (wrap64 (a1)))) * (wrap64 (1 + (Int.tmod (wrap64 (a2)) 16)))))).bind fun bt152 => ((wave_Cosine.f k (wrap64 (a0)) (wrap64 (1 + (wrap64 (a1))))).bind fun bt154 => (if t147 = 0 then (if bt148.2 = 0 then (if bt150.2 = 0 then (if bt152.2 = 0 then (if bt154.2 = 0 then (if bt148.1 = (IntKind.i16.wrap (-t146)) then (if bt150.1 = t146 then (if bt152.1 = t146 then (if (wrap64 ((wrap64 ((wrap64 ((wrap64 (t146)) * (wrap64 (t146)))) + (wrap64 ((wrap64 (bt154.1)) * (wrap64 (bt154.1)))))) - 1073741824)) ≤ 262144 then (some (decide ((wrap64 ((wrap64 ((wrap64 ((wrap64 (t146)) * (wrap64 (t146)))) + (wrap64 ((wrap64 (bt154.1)) * (wrap64 (bt154.1)))))) - 1073741824)) ≥ (-262144)))) else (some false)) else (some false)) else (some false)) else (some false)) else (some false)) else (some false)) else (some false)) else (some false)) else (some false)))))) = some r := H
    have A6 := Aside0.mk A60
    clear A60
    replace H := Option.bind_eq_some_iff.mp H
    obtain ⟨⟨t148, t149⟩, A70, H⟩ := H
    replace H : ((wave_Sine.f k (wrap64 ((wrap64 (a0)) + (wrap64 ((wrap64 (1 + (Int.tmod (wrap64 (a2)) 16))) * (wrap64 (1 + (wrap64 (a1)))))))) (wrap64 (1 + (wrap64 (a1))))).bind fun bt150 => ((wave_Sine.f k (wrap64 ((wrap64 (a0)) * (wrap64 (1 + (Int.tmod (wrap64 (a2)) 16))))) (wrap64 ((wrap64 (1 + (wrap64 (a1)))) * (wrap64 (1 + (Int.tmod (wrap64 (a2)) 16)))))).bind fun bt152 => ((wave_Cosine.f k (wrap64 (a0)) (wrap64 (1 + (wrap64 (a1))))).bind fun bt154 => (if t147 = 0 then (if t149 = 0 then (if bt150.2 = 0 then (if bt152.2 = 0 then (if bt154.2 = 0 then (if t148 = (IntKind.i16.wrap (-t146)) then (if bt150.1 = t146 then (if bt152.1 = t146 then (if (wrap64 ((wrap64 ((wrap64 ((wrap64 (t146)) * (wrap64 (t146)))) + (wrap64 ((wrap64 (bt154.1)) * (wrap64 (bt154.1)))))) - 1073741824)) ≤ 262144 then (some (decide ((wrap64 ((wrap64 ((wrap64 ((wrap64 (t146)) * (wrap64 (t146)))) + (wrap64 ((wrap64 (bt154.1)) * (wrap64 (bt154.1)))))) - 1073741824)) ≥ (-262144)))) else (some false)) else (some false)) else (some false)) else (some false)) else (some false)) else (some false)) else (some false)) else (some false)) else (some false))))) = some r := H
    have A7 := Aside0.mk A70
    clear A70
    replace H := Option.bind_eq_some_iff.mp H
    obtain ⟨⟨t150, t151⟩, A80, H⟩ := H
    replace H : ((wave_Sine.f k (wrap64 ((wrap64 (a0)) * (wrap64 (1 + (Int.tmod (wrap64 (a2)) 16))))) (wrap64 ((wrap64 (1 + (wrap64 (a1)))) * (wrap64 (1 + (Int.tmod (wrap64 (a2)) 16)))))).bind fun bt152 => ((wave_Cosine.f k (wrap64 (a0)) (wrap64 (1 + (wrap64 (a1))))).bind fun bt154 => (if t147 = 0 then (if t149 = 0 then (if t151 = 0 then (if bt152.2 = 0 then (if bt154.2 = 0 then (if t148 = (IntKind.i16.wrap (-t146)) then (if t150 = t146 then (if bt152.1 = t146 then (if (wrap64 ((wrap64 ((wrap64 ((wrap64 (t146)) * (wrap64 (t146)))) + (wrap64 ((wrap64 (bt154.1)) * (wrap64 (bt154.1)))))) - 1073741824)) ≤ 262144 then (some (decide ((wrap64 ((wrap64 ((wrap64 ((wrap64 (t146)) * (wrap64 (t146)))) + (wrap64 ((wrap64 (bt154.1)) * (wrap64 (bt154.1)))))) - 1073741824)) ≥ (-262144)))) else (some false)) else (some false)) else (some false)) else (some false)) else (some false)) else (some false)) else (some false)) else (some false)) else (some false)))) = some r := H
    have A8 := Aside0.mk A80
    clear A80
    replace H := Option.bind_eq_some_iff.mp H
    obtain ⟨⟨t152, t153⟩, A90, H⟩ := H
    replace H : ((wave_Cosine.f k (wrap64 (a0)) (wrap64 (1 + (wrap64 (a1))))).bind fun bt154 => (if t147 = 0 then (if t149 = 0 then (if t151 = 0 then (if t153 = 0 then (if bt154.2 = 0 then (if t148 = (IntKind.i16.wrap (-t146)) then (if t150 = t146 then (if t152 = t146 then (if (wrap64 ((wrap64 ((wrap64 ((wrap64 (t146)) * (wrap64 (t146)))) + (wrap64 ((wrap64 (bt154.1)) * (wrap64 (bt154.1)))))) - 1073741824)) ≤ 262144 then (some (decide ((wrap64 ((wrap64 ((wrap64 ((wrap64 (t146)) * (wrap64 (t146)))) + (wrap64 ((wrap64 (bt154.1)) * (wrap64 (bt154.1)))))) - 1073741824)) ≥ (-262144)))) else (some false)) else (some false)) else (some false)) else (some false)) else (some false)) else (some false)) else (some false)) else (some false)) else (some false))) = some r := H
    have A9 := Aside0.mk A90
    clear A90
    replace H := Option.bind_eq_some_iff.mp H
    obtain ⟨⟨t154, t155⟩, A100, H⟩ := H
    replace H : (if t147 = 0 then (if t149 = 0 then (if t151 = 0 then (if t153 = 0 then (if t155 = 0 then (if t148 = (IntKind.i16.wrap (-t146)) then (if t150 = t146 then (if t152 = t146 then (if (wrap64 ((wrap64 ((wrap64 ((wrap64 (t146)) * (wrap64 (t146)))) + (wrap64 ((wrap64 (t154)) * (wrap64 (t154)))))) - 1073741824)) ≤ 262144 then (some (decide ((wrap64 ((wrap64 ((wrap64 ((wrap64 (t146)) * (wrap64 (t146)))) + (wrap64 ((wrap64 (t154)) * (wrap64 (t154)))))) - 1073741824)) ≥ (-262144)))) else (some false)) else (some false)) else (some false)) else (some false)) else (some false)) else (some false)) else (some false)) else (some false)) else (some false)) = some r := H
    have A10 := Aside0.mk A100
    clear A100
    by_cases c11 : t147 = 0
    · rw [if_pos c11] at H
      have c11b0 : (t147 == 0) = true := beq_iff_eq.mpr c11
      have c11b1 : (t147 != 0) = false := bne_eq_false_iff_eq.mpr c11
      clear c11
      by_cases c12 : t149 = 0
      · rw [if_pos c12] at H
        have c12b0 : (t149 == 0) = true := beq_iff_eq.mpr c12
        have c12b1 : (t149 != 0) = false := bne_eq_false_iff_eq.mpr c12
        clear c12
        by_cases c13 : t151 = 0
        · rw [if_pos c13] at H
          have c13b0 : (t151 == 0) = true := beq_iff_eq.mpr c13
          have c13b1 : (t151 != 0) = false := bne_eq_false_iff_eq.mpr c13
          clear c13
          by_cases c14 : t153 = 0
          · rw [if_pos c14] at H
            have c14b0 : (t153 == 0) = true := beq_iff_eq.mpr c14
            have c14b1 : (t153 != 0) = false := bne_eq_false_iff_eq.mpr c14
            clear c14
            by_cases c15 : t155 = 0
            · rw [if_pos c15] at H
              have c15b0 : (t155 == 0) = true := beq_iff_eq.mpr c15
              have c15b1 : (t155 != 0) = false := bne_eq_false_iff_eq.mpr c15
              clear c15
              by_cases c16 : t148 = (IntKind.i16.wrap (-t146))
              · rw [if_pos c16] at H
                have c16b0 : (t148 == (IntKind.i16.wrap (-t146))) = true := beq_iff_eq.mpr c16
                have c16b1 : (t148 != (IntKind.i16.wrap (-t146))) = false := bne_eq_false_iff_eq.mpr c16
                clear c16
                by_cases c17 : t150 = t146
                · rw [if_pos c17] at H
                  have c17b0 : (t150 == t146) = true := beq_iff_eq.mpr c17
                  have c17b1 : (t150 != t146) = false := bne_eq_false_iff_eq.mpr c17
                  clear c17
                  by_cases c18 : t152 = t146
                  · rw [if_pos c18] at H
                    have c18b0 : (t152 == t146) = true := beq_iff_eq.mpr c18
                    have c18b1 : (t152 != t146) = false := bne_eq_false_iff_eq.mpr c18
                    clear c18
                    by_cases c19 : (wrap64 ((wrap64 ((wrap64 ((wrap64 (t146)) * (wrap64 (t146)))) + (wrap64 ((wrap64 (t154)) * (wrap64 (t154)))))) - 1073741824)) ≤ 262144
                    · rw [if_pos c19] at H
                      have c19b0 : decide ((wrap64 ((wrap64 ((wrap64 ((wrap64 (t146)) * (wrap64 (t146)))) + (wrap64 ((wrap64 (t154)) * (wrap64 (t154)))))) - 1073741824)) ≤ 262144) = true := decide_eq_true c19
                      clear c19
                      obtain rfl := Option.some.inj H
                      go_enter Try.func6, Try.ntmps6
                      go_wp2_with (first | ((with_reducible refine gate_callee (f := 23) rfl ?_); refine goesL_ (some 21) rfl rfl Try.func23 (by kernel_rfl) rfl #[] rfl (by (try simp only [List.map_toArray, List.map_cons, List.map_nil]); first | done | rfl | (simp only [List.length_drop, List.length_take]; rfl)) ?_; (with_reducible refine (psalterylaw03_alive.calls k  true _ A4.out).mono ?_); rintro e w' ⟨rfl, ⟨nd, rfl⟩⟩; refine ⟨_, rfl, ?_⟩) | ((with_reducible refine gate_callee (f := 24) rfl ?_); refine goesL_ (some 35) rfl rfl Try.func24 (by kernel_rfl) rfl #[.int .i64 (wrap64 (a0)), .int .i64 (wrap64 (1 + (wrap64 (a1))))] rfl (by (try simp only [List.map_toArray, List.map_cons, List.map_nil]); first | done | rfl | (simp only [List.length_drop, List.length_take]; rfl)) ?_; (with_reducible refine (wave_Sine.calls k (wrap64 (a0)) (wrap64 (1 + (wrap64 (a1)))) t146 t147 _ A6.out).mono ?_); rintro e w' ⟨rfl, ⟨nd, rfl⟩⟩; refine ⟨_, rfl, ?_⟩) | ((with_reducible refine gate_callee (f := 24) rfl ?_); refine goesL_ (some 42) rfl rfl Try.func24 (by kernel_rfl) rfl #[.int .i64 (wrap64 (-(wrap64 (a0)))), .int .i64 (wrap64 (1 + (wrap64 (a1))))] rfl (by (try simp only [List.map_toArray, List.map_cons, List.map_nil]); first | done | rfl | (simp only [List.length_drop, List.length_take]; rfl)) ?_; (with_reducible refine (wave_Sine.calls k (wrap64 (-(wrap64 (a0)))) (wrap64 (1 + (wrap64 (a1)))) t148 t149 _ A7.out).mono ?_); rintro e w' ⟨rfl, ⟨nd, rfl⟩⟩; refine ⟨_, rfl, ?_⟩) | ((with_reducible refine gate_callee (f := 24) rfl ?_); refine goesL_ (some 52) rfl rfl Try.func24 (by kernel_rfl) rfl #[.int .i64 (wrap64 ((wrap64 (a0)) + (wrap64 ((wrap64 (1 + (Int.tmod (wrap64 (a2)) 16))) * (wrap64 (1 + (wrap64 (a1)))))))), .int .i64 (wrap64 (1 + (wrap64 (a1))))] rfl (by (try simp only [List.map_toArray, List.map_cons, List.map_nil]); first | done | rfl | (simp only [List.length_drop, List.length_take]; rfl)) ?_; (with_reducible refine (wave_Sine.calls k (wrap64 ((wrap64 (a0)) + (wrap64 ((wrap64 (1 + (Int.tmod (wrap64 (a2)) 16))) * (wrap64 (1 + (wrap64 (a1)))))))) (wrap64 (1 + (wrap64 (a1)))) t150 t151 _ A8.out).mono ?_); rintro e w' ⟨rfl, ⟨nd, rfl⟩⟩; refine ⟨_, rfl, ?_⟩) | ((with_reducible refine gate_callee (f := 24) rfl ?_); refine goesL_ (some 62) rfl rfl Try.func24 (by kernel_rfl) rfl #[.int .i64 (wrap64 ((wrap64 (a0)) * (wrap64 (1 + (Int.tmod (wrap64 (a2)) 16))))), .int .i64 (wrap64 ((wrap64 (1 + (wrap64 (a1)))) * (wrap64 (1 + (Int.tmod (wrap64 (a2)) 16)))))] rfl (by (try simp only [List.map_toArray, List.map_cons, List.map_nil]); first | done | rfl | (simp only [List.length_drop, List.length_take]; rfl)) ?_; (with_reducible refine (wave_Sine.calls k (wrap64 ((wrap64 (a0)) * (wrap64 (1 + (Int.tmod (wrap64 (a2)) 16))))) (wrap64 ((wrap64 (1 + (wrap64 (a1)))) * (wrap64 (1 + (Int.tmod (wrap64 (a2)) 16))))) t152 t153 _ A9.out).mono ?_); rintro e w' ⟨rfl, ⟨nd, rfl⟩⟩; refine ⟨_, rfl, ?_⟩) | ((with_reducible refine gate_callee (f := 26) rfl ?_); refine goesL_ (some 68) rfl rfl Try.func26 (by kernel_rfl) rfl #[.int .i64 (wrap64 (a0)), .int .i64 (wrap64 (1 + (wrap64 (a1))))] rfl (by (try simp only [List.map_toArray, List.map_cons, List.map_nil]); first | done | rfl | (simp only [List.length_drop, List.length_take]; rfl)) ?_; (with_reducible refine (wave_Cosine.calls k (wrap64 (a0)) (wrap64 (1 + (wrap64 (a1)))) t154 t155 _ A10.out).mono ?_); rintro e w' ⟨rfl, ⟨nd, rfl⟩⟩; refine ⟨_, rfl, ?_⟩))
                      go_ret
                      exact ⟨by first | rfl | (simp; done) | (simp [*]; done), by repeat (first | exact Drawn0.refl _ | apply Drawn0.step)⟩
                    · rw [if_neg c19] at H
                      have c19b0 : decide ((wrap64 ((wrap64 ((wrap64 ((wrap64 (t146)) * (wrap64 (t146)))) + (wrap64 ((wrap64 (t154)) * (wrap64 (t154)))))) - 1073741824)) ≤ 262144) = false := decide_eq_false c19
                      clear c19
                      obtain rfl := Option.some.inj H
                      go_enter Try.func6, Try.ntmps6
                      go_wp2_with (first | ((with_reducible refine gate_callee (f := 23) rfl ?_); refine goesL_ (some 21) rfl rfl Try.func23 (by kernel_rfl) rfl #[] rfl (by (try simp only [List.map_toArray, List.map_cons, List.map_nil]); first | done | rfl | (simp only [List.length_drop, List.length_take]; rfl)) ?_; (with_reducible refine (psalterylaw03_alive.calls k  true _ A4.out).mono ?_); rintro e w' ⟨rfl, ⟨nd, rfl⟩⟩; refine ⟨_, rfl, ?_⟩) | ((with_reducible refine gate_callee (f := 24) rfl ?_); refine goesL_ (some 35) rfl rfl Try.func24 (by kernel_rfl) rfl #[.int .i64 (wrap64 (a0)), .int .i64 (wrap64 (1 + (wrap64 (a1))))] rfl (by (try simp only [List.map_toArray, List.map_cons, List.map_nil]); first | done | rfl | (simp only [List.length_drop, List.length_take]; rfl)) ?_; (with_reducible refine (wave_Sine.calls k (wrap64 (a0)) (wrap64 (1 + (wrap64 (a1)))) t146 t147 _ A6.out).mono ?_); rintro e w' ⟨rfl, ⟨nd, rfl⟩⟩; refine ⟨_, rfl, ?_⟩) | ((with_reducible refine gate_callee (f := 24) rfl ?_); refine goesL_ (some 42) rfl rfl Try.func24 (by kernel_rfl) rfl #[.int .i64 (wrap64 (-(wrap64 (a0)))), .int .i64 (wrap64 (1 + (wrap64 (a1))))] rfl (by (try simp only [List.map_toArray, List.map_cons, List.map_nil]); first | done | rfl | (simp only [List.length_drop, List.length_take]; rfl)) ?_; (with_reducible refine (wave_Sine.calls k (wrap64 (-(wrap64 (a0)))) (wrap64 (1 + (wrap64 (a1)))) t148 t149 _ A7.out).mono ?_); rintro e w' ⟨rfl, ⟨nd, rfl⟩⟩; refine ⟨_, rfl, ?_⟩) | ((with_reducible refine gate_callee (f := 24) rfl ?_); refine goesL_ (some 52) rfl rfl Try.func24 (by kernel_rfl) rfl #[.int .i64 (wrap64 ((wrap64 (a0)) + (wrap64 ((wrap64 (1 + (Int.tmod (wrap64 (a2)) 16))) * (wrap64 (1 + (wrap64 (a1)))))))), .int .i64 (wrap64 (1 + (wrap64 (a1))))] rfl (by (try simp only [List.map_toArray, List.map_cons, List.map_nil]); first | done | rfl | (simp only [List.length_drop, List.length_take]; rfl)) ?_; (with_reducible refine (wave_Sine.calls k (wrap64 ((wrap64 (a0)) + (wrap64 ((wrap64 (1 + (Int.tmod (wrap64 (a2)) 16))) * (wrap64 (1 + (wrap64 (a1)))))))) (wrap64 (1 + (wrap64 (a1)))) t150 t151 _ A8.out).mono ?_); rintro e w' ⟨rfl, ⟨nd, rfl⟩⟩; refine ⟨_, rfl, ?_⟩) | ((with_reducible refine gate_callee (f := 24) rfl ?_); refine goesL_ (some 62) rfl rfl Try.func24 (by kernel_rfl) rfl #[.int .i64 (wrap64 ((wrap64 (a0)) * (wrap64 (1 + (Int.tmod (wrap64 (a2)) 16))))), .int .i64 (wrap64 ((wrap64 (1 + (wrap64 (a1)))) * (wrap64 (1 + (Int.tmod (wrap64 (a2)) 16)))))] rfl (by (try simp only [List.map_toArray, List.map_cons, List.map_nil]); first | done | rfl | (simp only [List.length_drop, List.length_take]; rfl)) ?_; (with_reducible refine (wave_Sine.calls k (wrap64 ((wrap64 (a0)) * (wrap64 (1 + (Int.tmod (wrap64 (a2)) 16))))) (wrap64 ((wrap64 (1 + (wrap64 (a1)))) * (wrap64 (1 + (Int.tmod (wrap64 (a2)) 16))))) t152 t153 _ A9.out).mono ?_); rintro e w' ⟨rfl, ⟨nd, rfl⟩⟩; refine ⟨_, rfl, ?_⟩) | ((with_reducible refine gate_callee (f := 26) rfl ?_); refine goesL_ (some 68) rfl rfl Try.func26 (by kernel_rfl) rfl #[.int .i64 (wrap64 (a0)), .int .i64 (wrap64 (1 + (wrap64 (a1))))] rfl (by (try simp only [List.map_toArray, List.map_cons, List.map_nil]); first | done | rfl | (simp only [List.length_drop, List.length_take]; rfl)) ?_; (with_reducible refine (wave_Cosine.calls k (wrap64 (a0)) (wrap64 (1 + (wrap64 (a1)))) t154 t155 _ A10.out).mono ?_); rintro e w' ⟨rfl, ⟨nd, rfl⟩⟩; refine ⟨_, rfl, ?_⟩))
                      go_ret
                      exact ⟨by first | rfl | (simp; done) | (simp [*]; done), by repeat (first | exact Drawn0.refl _ | apply Drawn0.step)⟩
                  · rw [if_neg c18] at H
                    have c18b0 : (t152 == t146) = false := beq_eq_false_iff_ne.mpr c18
                    have c18b1 : (t152 != t146) = true := bne_iff_ne.mpr c18
                    obtain rfl := Option.some.inj H
                    go_enter Try.func6, Try.ntmps6
                    go_wp2_with (first | ((with_reducible refine gate_callee (f := 23) rfl ?_); refine goesL_ (some 21) rfl rfl Try.func23 (by kernel_rfl) rfl #[] rfl (by (try simp only [List.map_toArray, List.map_cons, List.map_nil]); first | done | rfl | (simp only [List.length_drop, List.length_take]; rfl)) ?_; (with_reducible refine (psalterylaw03_alive.calls k  true _ A4.out).mono ?_); rintro e w' ⟨rfl, ⟨nd, rfl⟩⟩; refine ⟨_, rfl, ?_⟩) | ((with_reducible refine gate_callee (f := 24) rfl ?_); refine goesL_ (some 35) rfl rfl Try.func24 (by kernel_rfl) rfl #[.int .i64 (wrap64 (a0)), .int .i64 (wrap64 (1 + (wrap64 (a1))))] rfl (by (try simp only [List.map_toArray, List.map_cons, List.map_nil]); first | done | rfl | (simp only [List.length_drop, List.length_take]; rfl)) ?_; (with_reducible refine (wave_Sine.calls k (wrap64 (a0)) (wrap64 (1 + (wrap64 (a1)))) t146 t147 _ A6.out).mono ?_); rintro e w' ⟨rfl, ⟨nd, rfl⟩⟩; refine ⟨_, rfl, ?_⟩) | ((with_reducible refine gate_callee (f := 24) rfl ?_); refine goesL_ (some 42) rfl rfl Try.func24 (by kernel_rfl) rfl #[.int .i64 (wrap64 (-(wrap64 (a0)))), .int .i64 (wrap64 (1 + (wrap64 (a1))))] rfl (by (try simp only [List.map_toArray, List.map_cons, List.map_nil]); first | done | rfl | (simp only [List.length_drop, List.length_take]; rfl)) ?_; (with_reducible refine (wave_Sine.calls k (wrap64 (-(wrap64 (a0)))) (wrap64 (1 + (wrap64 (a1)))) t148 t149 _ A7.out).mono ?_); rintro e w' ⟨rfl, ⟨nd, rfl⟩⟩; refine ⟨_, rfl, ?_⟩) | ((with_reducible refine gate_callee (f := 24) rfl ?_); refine goesL_ (some 52) rfl rfl Try.func24 (by kernel_rfl) rfl #[.int .i64 (wrap64 ((wrap64 (a0)) + (wrap64 ((wrap64 (1 + (Int.tmod (wrap64 (a2)) 16))) * (wrap64 (1 + (wrap64 (a1)))))))), .int .i64 (wrap64 (1 + (wrap64 (a1))))] rfl (by (try simp only [List.map_toArray, List.map_cons, List.map_nil]); first | done | rfl | (simp only [List.length_drop, List.length_take]; rfl)) ?_; (with_reducible refine (wave_Sine.calls k (wrap64 ((wrap64 (a0)) + (wrap64 ((wrap64 (1 + (Int.tmod (wrap64 (a2)) 16))) * (wrap64 (1 + (wrap64 (a1)))))))) (wrap64 (1 + (wrap64 (a1)))) t150 t151 _ A8.out).mono ?_); rintro e w' ⟨rfl, ⟨nd, rfl⟩⟩; refine ⟨_, rfl, ?_⟩) | ((with_reducible refine gate_callee (f := 24) rfl ?_); refine goesL_ (some 62) rfl rfl Try.func24 (by kernel_rfl) rfl #[.int .i64 (wrap64 ((wrap64 (a0)) * (wrap64 (1 + (Int.tmod (wrap64 (a2)) 16))))), .int .i64 (wrap64 ((wrap64 (1 + (wrap64 (a1)))) * (wrap64 (1 + (Int.tmod (wrap64 (a2)) 16)))))] rfl (by (try simp only [List.map_toArray, List.map_cons, List.map_nil]); first | done | rfl | (simp only [List.length_drop, List.length_take]; rfl)) ?_; (with_reducible refine (wave_Sine.calls k (wrap64 ((wrap64 (a0)) * (wrap64 (1 + (Int.tmod (wrap64 (a2)) 16))))) (wrap64 ((wrap64 (1 + (wrap64 (a1)))) * (wrap64 (1 + (Int.tmod (wrap64 (a2)) 16))))) t152 t153 _ A9.out).mono ?_); rintro e w' ⟨rfl, ⟨nd, rfl⟩⟩; refine ⟨_, rfl, ?_⟩) | ((with_reducible refine gate_callee (f := 26) rfl ?_); refine goesL_ (some 68) rfl rfl Try.func26 (by kernel_rfl) rfl #[.int .i64 (wrap64 (a0)), .int .i64 (wrap64 (1 + (wrap64 (a1))))] rfl (by (try simp only [List.map_toArray, List.map_cons, List.map_nil]); first | done | rfl | (simp only [List.length_drop, List.length_take]; rfl)) ?_; (with_reducible refine (wave_Cosine.calls k (wrap64 (a0)) (wrap64 (1 + (wrap64 (a1)))) t154 t155 _ A10.out).mono ?_); rintro e w' ⟨rfl, ⟨nd, rfl⟩⟩; refine ⟨_, rfl, ?_⟩))
                    go_ret
                    exact ⟨by first | rfl | (simp; done) | (simp [*]; done), by repeat (first | exact Drawn0.refl _ | apply Drawn0.step)⟩
                · rw [if_neg c17] at H
                  have c17b0 : (t150 == t146) = false := beq_eq_false_iff_ne.mpr c17
                  have c17b1 : (t150 != t146) = true := bne_iff_ne.mpr c17
                  obtain rfl := Option.some.inj H
                  go_enter Try.func6, Try.ntmps6
                  go_wp2_with (first | ((with_reducible refine gate_callee (f := 23) rfl ?_); refine goesL_ (some 21) rfl rfl Try.func23 (by kernel_rfl) rfl #[] rfl (by (try simp only [List.map_toArray, List.map_cons, List.map_nil]); first | done | rfl | (simp only [List.length_drop, List.length_take]; rfl)) ?_; (with_reducible refine (psalterylaw03_alive.calls k  true _ A4.out).mono ?_); rintro e w' ⟨rfl, ⟨nd, rfl⟩⟩; refine ⟨_, rfl, ?_⟩) | ((with_reducible refine gate_callee (f := 24) rfl ?_); refine goesL_ (some 35) rfl rfl Try.func24 (by kernel_rfl) rfl #[.int .i64 (wrap64 (a0)), .int .i64 (wrap64 (1 + (wrap64 (a1))))] rfl (by (try simp only [List.map_toArray, List.map_cons, List.map_nil]); first | done | rfl | (simp only [List.length_drop, List.length_take]; rfl)) ?_; (with_reducible refine (wave_Sine.calls k (wrap64 (a0)) (wrap64 (1 + (wrap64 (a1)))) t146 t147 _ A6.out).mono ?_); rintro e w' ⟨rfl, ⟨nd, rfl⟩⟩; refine ⟨_, rfl, ?_⟩) | ((with_reducible refine gate_callee (f := 24) rfl ?_); refine goesL_ (some 42) rfl rfl Try.func24 (by kernel_rfl) rfl #[.int .i64 (wrap64 (-(wrap64 (a0)))), .int .i64 (wrap64 (1 + (wrap64 (a1))))] rfl (by (try simp only [List.map_toArray, List.map_cons, List.map_nil]); first | done | rfl | (simp only [List.length_drop, List.length_take]; rfl)) ?_; (with_reducible refine (wave_Sine.calls k (wrap64 (-(wrap64 (a0)))) (wrap64 (1 + (wrap64 (a1)))) t148 t149 _ A7.out).mono ?_); rintro e w' ⟨rfl, ⟨nd, rfl⟩⟩; refine ⟨_, rfl, ?_⟩) | ((with_reducible refine gate_callee (f := 24) rfl ?_); refine goesL_ (some 52) rfl rfl Try.func24 (by kernel_rfl) rfl #[.int .i64 (wrap64 ((wrap64 (a0)) + (wrap64 ((wrap64 (1 + (Int.tmod (wrap64 (a2)) 16))) * (wrap64 (1 + (wrap64 (a1)))))))), .int .i64 (wrap64 (1 + (wrap64 (a1))))] rfl (by (try simp only [List.map_toArray, List.map_cons, List.map_nil]); first | done | rfl | (simp only [List.length_drop, List.length_take]; rfl)) ?_; (with_reducible refine (wave_Sine.calls k (wrap64 ((wrap64 (a0)) + (wrap64 ((wrap64 (1 + (Int.tmod (wrap64 (a2)) 16))) * (wrap64 (1 + (wrap64 (a1)))))))) (wrap64 (1 + (wrap64 (a1)))) t150 t151 _ A8.out).mono ?_); rintro e w' ⟨rfl, ⟨nd, rfl⟩⟩; refine ⟨_, rfl, ?_⟩) | ((with_reducible refine gate_callee (f := 24) rfl ?_); refine goesL_ (some 62) rfl rfl Try.func24 (by kernel_rfl) rfl #[.int .i64 (wrap64 ((wrap64 (a0)) * (wrap64 (1 + (Int.tmod (wrap64 (a2)) 16))))), .int .i64 (wrap64 ((wrap64 (1 + (wrap64 (a1)))) * (wrap64 (1 + (Int.tmod (wrap64 (a2)) 16)))))] rfl (by (try simp only [List.map_toArray, List.map_cons, List.map_nil]); first | done | rfl | (simp only [List.length_drop, List.length_take]; rfl)) ?_; (with_reducible refine (wave_Sine.calls k (wrap64 ((wrap64 (a0)) * (wrap64 (1 + (Int.tmod (wrap64 (a2)) 16))))) (wrap64 ((wrap64 (1 + (wrap64 (a1)))) * (wrap64 (1 + (Int.tmod (wrap64 (a2)) 16))))) t152 t153 _ A9.out).mono ?_); rintro e w' ⟨rfl, ⟨nd, rfl⟩⟩; refine ⟨_, rfl, ?_⟩) | ((with_reducible refine gate_callee (f := 26) rfl ?_); refine goesL_ (some 68) rfl rfl Try.func26 (by kernel_rfl) rfl #[.int .i64 (wrap64 (a0)), .int .i64 (wrap64 (1 + (wrap64 (a1))))] rfl (by (try simp only [List.map_toArray, List.map_cons, List.map_nil]); first | done | rfl | (simp only [List.length_drop, List.length_take]; rfl)) ?_; (with_reducible refine (wave_Cosine.calls k (wrap64 (a0)) (wrap64 (1 + (wrap64 (a1)))) t154 t155 _ A10.out).mono ?_); rintro e w' ⟨rfl, ⟨nd, rfl⟩⟩; refine ⟨_, rfl, ?_⟩))
                  go_ret
                  exact ⟨by first | rfl | (simp; done) | (simp [*]; done), by repeat (first | exact Drawn0.refl _ | apply Drawn0.step)⟩
              · rw [if_neg c16] at H
                have c16b0 : (t148 == (IntKind.i16.wrap (-t146))) = false := beq_eq_false_iff_ne.mpr c16
                have c16b1 : (t148 != (IntKind.i16.wrap (-t146))) = true := bne_iff_ne.mpr c16
                obtain rfl := Option.some.inj H
                go_enter Try.func6, Try.ntmps6
                go_wp2_with (first | ((with_reducible refine gate_callee (f := 23) rfl ?_); refine goesL_ (some 21) rfl rfl Try.func23 (by kernel_rfl) rfl #[] rfl (by (try simp only [List.map_toArray, List.map_cons, List.map_nil]); first | done | rfl | (simp only [List.length_drop, List.length_take]; rfl)) ?_; (with_reducible refine (psalterylaw03_alive.calls k  true _ A4.out).mono ?_); rintro e w' ⟨rfl, ⟨nd, rfl⟩⟩; refine ⟨_, rfl, ?_⟩) | ((with_reducible refine gate_callee (f := 24) rfl ?_); refine goesL_ (some 35) rfl rfl Try.func24 (by kernel_rfl) rfl #[.int .i64 (wrap64 (a0)), .int .i64 (wrap64 (1 + (wrap64 (a1))))] rfl (by (try simp only [List.map_toArray, List.map_cons, List.map_nil]); first | done | rfl | (simp only [List.length_drop, List.length_take]; rfl)) ?_; (with_reducible refine (wave_Sine.calls k (wrap64 (a0)) (wrap64 (1 + (wrap64 (a1)))) t146 t147 _ A6.out).mono ?_); rintro e w' ⟨rfl, ⟨nd, rfl⟩⟩; refine ⟨_, rfl, ?_⟩) | ((with_reducible refine gate_callee (f := 24) rfl ?_); refine goesL_ (some 42) rfl rfl Try.func24 (by kernel_rfl) rfl #[.int .i64 (wrap64 (-(wrap64 (a0)))), .int .i64 (wrap64 (1 + (wrap64 (a1))))] rfl (by (try simp only [List.map_toArray, List.map_cons, List.map_nil]); first | done | rfl | (simp only [List.length_drop, List.length_take]; rfl)) ?_; (with_reducible refine (wave_Sine.calls k (wrap64 (-(wrap64 (a0)))) (wrap64 (1 + (wrap64 (a1)))) t148 t149 _ A7.out).mono ?_); rintro e w' ⟨rfl, ⟨nd, rfl⟩⟩; refine ⟨_, rfl, ?_⟩) | ((with_reducible refine gate_callee (f := 24) rfl ?_); refine goesL_ (some 52) rfl rfl Try.func24 (by kernel_rfl) rfl #[.int .i64 (wrap64 ((wrap64 (a0)) + (wrap64 ((wrap64 (1 + (Int.tmod (wrap64 (a2)) 16))) * (wrap64 (1 + (wrap64 (a1)))))))), .int .i64 (wrap64 (1 + (wrap64 (a1))))] rfl (by (try simp only [List.map_toArray, List.map_cons, List.map_nil]); first | done | rfl | (simp only [List.length_drop, List.length_take]; rfl)) ?_; (with_reducible refine (wave_Sine.calls k (wrap64 ((wrap64 (a0)) + (wrap64 ((wrap64 (1 + (Int.tmod (wrap64 (a2)) 16))) * (wrap64 (1 + (wrap64 (a1)))))))) (wrap64 (1 + (wrap64 (a1)))) t150 t151 _ A8.out).mono ?_); rintro e w' ⟨rfl, ⟨nd, rfl⟩⟩; refine ⟨_, rfl, ?_⟩) | ((with_reducible refine gate_callee (f := 24) rfl ?_); refine goesL_ (some 62) rfl rfl Try.func24 (by kernel_rfl) rfl #[.int .i64 (wrap64 ((wrap64 (a0)) * (wrap64 (1 + (Int.tmod (wrap64 (a2)) 16))))), .int .i64 (wrap64 ((wrap64 (1 + (wrap64 (a1)))) * (wrap64 (1 + (Int.tmod (wrap64 (a2)) 16)))))] rfl (by (try simp only [List.map_toArray, List.map_cons, List.map_nil]); first | done | rfl | (simp only [List.length_drop, List.length_take]; rfl)) ?_; (with_reducible refine (wave_Sine.calls k (wrap64 ((wrap64 (a0)) * (wrap64 (1 + (Int.tmod (wrap64 (a2)) 16))))) (wrap64 ((wrap64 (1 + (wrap64 (a1)))) * (wrap64 (1 + (Int.tmod (wrap64 (a2)) 16))))) t152 t153 _ A9.out).mono ?_); rintro e w' ⟨rfl, ⟨nd, rfl⟩⟩; refine ⟨_, rfl, ?_⟩) | ((with_reducible refine gate_callee (f := 26) rfl ?_); refine goesL_ (some 68) rfl rfl Try.func26 (by kernel_rfl) rfl #[.int .i64 (wrap64 (a0)), .int .i64 (wrap64 (1 + (wrap64 (a1))))] rfl (by (try simp only [List.map_toArray, List.map_cons, List.map_nil]); first | done | rfl | (simp only [List.length_drop, List.length_take]; rfl)) ?_; (with_reducible refine (wave_Cosine.calls k (wrap64 (a0)) (wrap64 (1 + (wrap64 (a1)))) t154 t155 _ A10.out).mono ?_); rintro e w' ⟨rfl, ⟨nd, rfl⟩⟩; refine ⟨_, rfl, ?_⟩))
                go_ret
                exact ⟨by first | rfl | (simp; done) | (simp [*]; done), by repeat (first | exact Drawn0.refl _ | apply Drawn0.step)⟩
            · rw [if_neg c15] at H
              have c15b0 : (t155 == 0) = false := beq_eq_false_iff_ne.mpr c15
              have c15b1 : (t155 != 0) = true := bne_iff_ne.mpr c15
              obtain rfl := Option.some.inj H
              go_enter Try.func6, Try.ntmps6
              go_wp2_with (first | ((with_reducible refine gate_callee (f := 23) rfl ?_); refine goesL_ (some 21) rfl rfl Try.func23 (by kernel_rfl) rfl #[] rfl (by (try simp only [List.map_toArray, List.map_cons, List.map_nil]); first | done | rfl | (simp only [List.length_drop, List.length_take]; rfl)) ?_; (with_reducible refine (psalterylaw03_alive.calls k  true _ A4.out).mono ?_); rintro e w' ⟨rfl, ⟨nd, rfl⟩⟩; refine ⟨_, rfl, ?_⟩) | ((with_reducible refine gate_callee (f := 24) rfl ?_); refine goesL_ (some 35) rfl rfl Try.func24 (by kernel_rfl) rfl #[.int .i64 (wrap64 (a0)), .int .i64 (wrap64 (1 + (wrap64 (a1))))] rfl (by (try simp only [List.map_toArray, List.map_cons, List.map_nil]); first | done | rfl | (simp only [List.length_drop, List.length_take]; rfl)) ?_; (with_reducible refine (wave_Sine.calls k (wrap64 (a0)) (wrap64 (1 + (wrap64 (a1)))) t146 t147 _ A6.out).mono ?_); rintro e w' ⟨rfl, ⟨nd, rfl⟩⟩; refine ⟨_, rfl, ?_⟩) | ((with_reducible refine gate_callee (f := 24) rfl ?_); refine goesL_ (some 42) rfl rfl Try.func24 (by kernel_rfl) rfl #[.int .i64 (wrap64 (-(wrap64 (a0)))), .int .i64 (wrap64 (1 + (wrap64 (a1))))] rfl (by (try simp only [List.map_toArray, List.map_cons, List.map_nil]); first | done | rfl | (simp only [List.length_drop, List.length_take]; rfl)) ?_; (with_reducible refine (wave_Sine.calls k (wrap64 (-(wrap64 (a0)))) (wrap64 (1 + (wrap64 (a1)))) t148 t149 _ A7.out).mono ?_); rintro e w' ⟨rfl, ⟨nd, rfl⟩⟩; refine ⟨_, rfl, ?_⟩) | ((with_reducible refine gate_callee (f := 24) rfl ?_); refine goesL_ (some 52) rfl rfl Try.func24 (by kernel_rfl) rfl #[.int .i64 (wrap64 ((wrap64 (a0)) + (wrap64 ((wrap64 (1 + (Int.tmod (wrap64 (a2)) 16))) * (wrap64 (1 + (wrap64 (a1)))))))), .int .i64 (wrap64 (1 + (wrap64 (a1))))] rfl (by (try simp only [List.map_toArray, List.map_cons, List.map_nil]); first | done | rfl | (simp only [List.length_drop, List.length_take]; rfl)) ?_; (with_reducible refine (wave_Sine.calls k (wrap64 ((wrap64 (a0)) + (wrap64 ((wrap64 (1 + (Int.tmod (wrap64 (a2)) 16))) * (wrap64 (1 + (wrap64 (a1)))))))) (wrap64 (1 + (wrap64 (a1)))) t150 t151 _ A8.out).mono ?_); rintro e w' ⟨rfl, ⟨nd, rfl⟩⟩; refine ⟨_, rfl, ?_⟩) | ((with_reducible refine gate_callee (f := 24) rfl ?_); refine goesL_ (some 62) rfl rfl Try.func24 (by kernel_rfl) rfl #[.int .i64 (wrap64 ((wrap64 (a0)) * (wrap64 (1 + (Int.tmod (wrap64 (a2)) 16))))), .int .i64 (wrap64 ((wrap64 (1 + (wrap64 (a1)))) * (wrap64 (1 + (Int.tmod (wrap64 (a2)) 16)))))] rfl (by (try simp only [List.map_toArray, List.map_cons, List.map_nil]); first | done | rfl | (simp only [List.length_drop, List.length_take]; rfl)) ?_; (with_reducible refine (wave_Sine.calls k (wrap64 ((wrap64 (a0)) * (wrap64 (1 + (Int.tmod (wrap64 (a2)) 16))))) (wrap64 ((wrap64 (1 + (wrap64 (a1)))) * (wrap64 (1 + (Int.tmod (wrap64 (a2)) 16))))) t152 t153 _ A9.out).mono ?_); rintro e w' ⟨rfl, ⟨nd, rfl⟩⟩; refine ⟨_, rfl, ?_⟩) | ((with_reducible refine gate_callee (f := 26) rfl ?_); refine goesL_ (some 68) rfl rfl Try.func26 (by kernel_rfl) rfl #[.int .i64 (wrap64 (a0)), .int .i64 (wrap64 (1 + (wrap64 (a1))))] rfl (by (try simp only [List.map_toArray, List.map_cons, List.map_nil]); first | done | rfl | (simp only [List.length_drop, List.length_take]; rfl)) ?_; (with_reducible refine (wave_Cosine.calls k (wrap64 (a0)) (wrap64 (1 + (wrap64 (a1)))) t154 t155 _ A10.out).mono ?_); rintro e w' ⟨rfl, ⟨nd, rfl⟩⟩; refine ⟨_, rfl, ?_⟩))
              go_ret
              exact ⟨by first | rfl | (simp; done) | (simp [*]; done), by repeat (first | exact Drawn0.refl _ | apply Drawn0.step)⟩
          · rw [if_neg c14] at H
            have c14b0 : (t153 == 0) = false := beq_eq_false_iff_ne.mpr c14
            have c14b1 : (t153 != 0) = true := bne_iff_ne.mpr c14
            obtain rfl := Option.some.inj H
            go_enter Try.func6, Try.ntmps6
            go_wp2_with (first | ((with_reducible refine gate_callee (f := 23) rfl ?_); refine goesL_ (some 21) rfl rfl Try.func23 (by kernel_rfl) rfl #[] rfl (by (try simp only [List.map_toArray, List.map_cons, List.map_nil]); first | done | rfl | (simp only [List.length_drop, List.length_take]; rfl)) ?_; (with_reducible refine (psalterylaw03_alive.calls k  true _ A4.out).mono ?_); rintro e w' ⟨rfl, ⟨nd, rfl⟩⟩; refine ⟨_, rfl, ?_⟩) | ((with_reducible refine gate_callee (f := 24) rfl ?_); refine goesL_ (some 35) rfl rfl Try.func24 (by kernel_rfl) rfl #[.int .i64 (wrap64 (a0)), .int .i64 (wrap64 (1 + (wrap64 (a1))))] rfl (by (try simp only [List.map_toArray, List.map_cons, List.map_nil]); first | done | rfl | (simp only [List.length_drop, List.length_take]; rfl)) ?_; (with_reducible refine (wave_Sine.calls k (wrap64 (a0)) (wrap64 (1 + (wrap64 (a1)))) t146 t147 _ A6.out).mono ?_); rintro e w' ⟨rfl, ⟨nd, rfl⟩⟩; refine ⟨_, rfl, ?_⟩) | ((with_reducible refine gate_callee (f := 24) rfl ?_); refine goesL_ (some 42) rfl rfl Try.func24 (by kernel_rfl) rfl #[.int .i64 (wrap64 (-(wrap64 (a0)))), .int .i64 (wrap64 (1 + (wrap64 (a1))))] rfl (by (try simp only [List.map_toArray, List.map_cons, List.map_nil]); first | done | rfl | (simp only [List.length_drop, List.length_take]; rfl)) ?_; (with_reducible refine (wave_Sine.calls k (wrap64 (-(wrap64 (a0)))) (wrap64 (1 + (wrap64 (a1)))) t148 t149 _ A7.out).mono ?_); rintro e w' ⟨rfl, ⟨nd, rfl⟩⟩; refine ⟨_, rfl, ?_⟩) | ((with_reducible refine gate_callee (f := 24) rfl ?_); refine goesL_ (some 52) rfl rfl Try.func24 (by kernel_rfl) rfl #[.int .i64 (wrap64 ((wrap64 (a0)) + (wrap64 ((wrap64 (1 + (Int.tmod (wrap64 (a2)) 16))) * (wrap64 (1 + (wrap64 (a1)))))))), .int .i64 (wrap64 (1 + (wrap64 (a1))))] rfl (by (try simp only [List.map_toArray, List.map_cons, List.map_nil]); first | done | rfl | (simp only [List.length_drop, List.length_take]; rfl)) ?_; (with_reducible refine (wave_Sine.calls k (wrap64 ((wrap64 (a0)) + (wrap64 ((wrap64 (1 + (Int.tmod (wrap64 (a2)) 16))) * (wrap64 (1 + (wrap64 (a1)))))))) (wrap64 (1 + (wrap64 (a1)))) t150 t151 _ A8.out).mono ?_); rintro e w' ⟨rfl, ⟨nd, rfl⟩⟩; refine ⟨_, rfl, ?_⟩) | ((with_reducible refine gate_callee (f := 24) rfl ?_); refine goesL_ (some 62) rfl rfl Try.func24 (by kernel_rfl) rfl #[.int .i64 (wrap64 ((wrap64 (a0)) * (wrap64 (1 + (Int.tmod (wrap64 (a2)) 16))))), .int .i64 (wrap64 ((wrap64 (1 + (wrap64 (a1)))) * (wrap64 (1 + (Int.tmod (wrap64 (a2)) 16)))))] rfl (by (try simp only [List.map_toArray, List.map_cons, List.map_nil]); first | done | rfl | (simp only [List.length_drop, List.length_take]; rfl)) ?_; (with_reducible refine (wave_Sine.calls k (wrap64 ((wrap64 (a0)) * (wrap64 (1 + (Int.tmod (wrap64 (a2)) 16))))) (wrap64 ((wrap64 (1 + (wrap64 (a1)))) * (wrap64 (1 + (Int.tmod (wrap64 (a2)) 16))))) t152 t153 _ A9.out).mono ?_); rintro e w' ⟨rfl, ⟨nd, rfl⟩⟩; refine ⟨_, rfl, ?_⟩) | ((with_reducible refine gate_callee (f := 26) rfl ?_); refine goesL_ (some 68) rfl rfl Try.func26 (by kernel_rfl) rfl #[.int .i64 (wrap64 (a0)), .int .i64 (wrap64 (1 + (wrap64 (a1))))] rfl (by (try simp only [List.map_toArray, List.map_cons, List.map_nil]); first | done | rfl | (simp only [List.length_drop, List.length_take]; rfl)) ?_; (with_reducible refine (wave_Cosine.calls k (wrap64 (a0)) (wrap64 (1 + (wrap64 (a1)))) t154 t155 _ A10.out).mono ?_); rintro e w' ⟨rfl, ⟨nd, rfl⟩⟩; refine ⟨_, rfl, ?_⟩))
            go_ret
            exact ⟨by first | rfl | (simp; done) | (simp [*]; done), by repeat (first | exact Drawn0.refl _ | apply Drawn0.step)⟩
        · rw [if_neg c13] at H
          have c13b0 : (t151 == 0) = false := beq_eq_false_iff_ne.mpr c13
          have c13b1 : (t151 != 0) = true := bne_iff_ne.mpr c13
          obtain rfl := Option.some.inj H
          go_enter Try.func6, Try.ntmps6
          go_wp2_with (first | ((with_reducible refine gate_callee (f := 23) rfl ?_); refine goesL_ (some 21) rfl rfl Try.func23 (by kernel_rfl) rfl #[] rfl (by (try simp only [List.map_toArray, List.map_cons, List.map_nil]); first | done | rfl | (simp only [List.length_drop, List.length_take]; rfl)) ?_; (with_reducible refine (psalterylaw03_alive.calls k  true _ A4.out).mono ?_); rintro e w' ⟨rfl, ⟨nd, rfl⟩⟩; refine ⟨_, rfl, ?_⟩) | ((with_reducible refine gate_callee (f := 24) rfl ?_); refine goesL_ (some 35) rfl rfl Try.func24 (by kernel_rfl) rfl #[.int .i64 (wrap64 (a0)), .int .i64 (wrap64 (1 + (wrap64 (a1))))] rfl (by (try simp only [List.map_toArray, List.map_cons, List.map_nil]); first | done | rfl | (simp only [List.length_drop, List.length_take]; rfl)) ?_; (with_reducible refine (wave_Sine.calls k (wrap64 (a0)) (wrap64 (1 + (wrap64 (a1)))) t146 t147 _ A6.out).mono ?_); rintro e w' ⟨rfl, ⟨nd, rfl⟩⟩; refine ⟨_, rfl, ?_⟩) | ((with_reducible refine gate_callee (f := 24) rfl ?_); refine goesL_ (some 42) rfl rfl Try.func24 (by kernel_rfl) rfl #[.int .i64 (wrap64 (-(wrap64 (a0)))), .int .i64 (wrap64 (1 + (wrap64 (a1))))] rfl (by (try simp only [List.map_toArray, List.map_cons, List.map_nil]); first | done | rfl | (simp only [List.length_drop, List.length_take]; rfl)) ?_; (with_reducible refine (wave_Sine.calls k (wrap64 (-(wrap64 (a0)))) (wrap64 (1 + (wrap64 (a1)))) t148 t149 _ A7.out).mono ?_); rintro e w' ⟨rfl, ⟨nd, rfl⟩⟩; refine ⟨_, rfl, ?_⟩) | ((with_reducible refine gate_callee (f := 24) rfl ?_); refine goesL_ (some 52) rfl rfl Try.func24 (by kernel_rfl) rfl #[.int .i64 (wrap64 ((wrap64 (a0)) + (wrap64 ((wrap64 (1 + (Int.tmod (wrap64 (a2)) 16))) * (wrap64 (1 + (wrap64 (a1)))))))), .int .i64 (wrap64 (1 + (wrap64 (a1))))] rfl (by (try simp only [List.map_toArray, List.map_cons, List.map_nil]); first | done | rfl | (simp only [List.length_drop, List.length_take]; rfl)) ?_; (with_reducible refine (wave_Sine.calls k (wrap64 ((wrap64 (a0)) + (wrap64 ((wrap64 (1 + (Int.tmod (wrap64 (a2)) 16))) * (wrap64 (1 + (wrap64 (a1)))))))) (wrap64 (1 + (wrap64 (a1)))) t150 t151 _ A8.out).mono ?_); rintro e w' ⟨rfl, ⟨nd, rfl⟩⟩; refine ⟨_, rfl, ?_⟩) | ((with_reducible refine gate_callee (f := 24) rfl ?_); refine goesL_ (some 62) rfl rfl Try.func24 (by kernel_rfl) rfl #[.int .i64 (wrap64 ((wrap64 (a0)) * (wrap64 (1 + (Int.tmod (wrap64 (a2)) 16))))), .int .i64 (wrap64 ((wrap64 (1 + (wrap64 (a1)))) * (wrap64 (1 + (Int.tmod (wrap64 (a2)) 16)))))] rfl (by (try simp only [List.map_toArray, List.map_cons, List.map_nil]); first | done | rfl | (simp only [List.length_drop, List.length_take]; rfl)) ?_; (with_reducible refine (wave_Sine.calls k (wrap64 ((wrap64 (a0)) * (wrap64 (1 + (Int.tmod (wrap64 (a2)) 16))))) (wrap64 ((wrap64 (1 + (wrap64 (a1)))) * (wrap64 (1 + (Int.tmod (wrap64 (a2)) 16))))) t152 t153 _ A9.out).mono ?_); rintro e w' ⟨rfl, ⟨nd, rfl⟩⟩; refine ⟨_, rfl, ?_⟩) | ((with_reducible refine gate_callee (f := 26) rfl ?_); refine goesL_ (some 68) rfl rfl Try.func26 (by kernel_rfl) rfl #[.int .i64 (wrap64 (a0)), .int .i64 (wrap64 (1 + (wrap64 (a1))))] rfl (by (try simp only [List.map_toArray, List.map_cons, List.map_nil]); first | done | rfl | (simp only [List.length_drop, List.length_take]; rfl)) ?_; (with_reducible refine (wave_Cosine.calls k (wrap64 (a0)) (wrap64 (1 + (wrap64 (a1)))) t154 t155 _ A10.out).mono ?_); rintro e w' ⟨rfl, ⟨nd, rfl⟩⟩; refine ⟨_, rfl, ?_⟩))
          go_ret
          exact ⟨by first | rfl | (simp; done) | (simp [*]; done), by repeat (first | exact Drawn0.refl _ | apply Drawn0.step)⟩
      · rw [if_neg c12] at H
        have c12b0 : (t149 == 0) = false := beq_eq_false_iff_ne.mpr c12
        have c12b1 : (t149 != 0) = true := bne_iff_ne.mpr c12
        obtain rfl := Option.some.inj H
        go_enter Try.func6, Try.ntmps6
        go_wp2_with (first | ((with_reducible refine gate_callee (f := 23) rfl ?_); refine goesL_ (some 21) rfl rfl Try.func23 (by kernel_rfl) rfl #[] rfl (by (try simp only [List.map_toArray, List.map_cons, List.map_nil]); first | done | rfl | (simp only [List.length_drop, List.length_take]; rfl)) ?_; (with_reducible refine (psalterylaw03_alive.calls k  true _ A4.out).mono ?_); rintro e w' ⟨rfl, ⟨nd, rfl⟩⟩; refine ⟨_, rfl, ?_⟩) | ((with_reducible refine gate_callee (f := 24) rfl ?_); refine goesL_ (some 35) rfl rfl Try.func24 (by kernel_rfl) rfl #[.int .i64 (wrap64 (a0)), .int .i64 (wrap64 (1 + (wrap64 (a1))))] rfl (by (try simp only [List.map_toArray, List.map_cons, List.map_nil]); first | done | rfl | (simp only [List.length_drop, List.length_take]; rfl)) ?_; (with_reducible refine (wave_Sine.calls k (wrap64 (a0)) (wrap64 (1 + (wrap64 (a1)))) t146 t147 _ A6.out).mono ?_); rintro e w' ⟨rfl, ⟨nd, rfl⟩⟩; refine ⟨_, rfl, ?_⟩) | ((with_reducible refine gate_callee (f := 24) rfl ?_); refine goesL_ (some 42) rfl rfl Try.func24 (by kernel_rfl) rfl #[.int .i64 (wrap64 (-(wrap64 (a0)))), .int .i64 (wrap64 (1 + (wrap64 (a1))))] rfl (by (try simp only [List.map_toArray, List.map_cons, List.map_nil]); first | done | rfl | (simp only [List.length_drop, List.length_take]; rfl)) ?_; (with_reducible refine (wave_Sine.calls k (wrap64 (-(wrap64 (a0)))) (wrap64 (1 + (wrap64 (a1)))) t148 t149 _ A7.out).mono ?_); rintro e w' ⟨rfl, ⟨nd, rfl⟩⟩; refine ⟨_, rfl, ?_⟩) | ((with_reducible refine gate_callee (f := 24) rfl ?_); refine goesL_ (some 52) rfl rfl Try.func24 (by kernel_rfl) rfl #[.int .i64 (wrap64 ((wrap64 (a0)) + (wrap64 ((wrap64 (1 + (Int.tmod (wrap64 (a2)) 16))) * (wrap64 (1 + (wrap64 (a1)))))))), .int .i64 (wrap64 (1 + (wrap64 (a1))))] rfl (by (try simp only [List.map_toArray, List.map_cons, List.map_nil]); first | done | rfl | (simp only [List.length_drop, List.length_take]; rfl)) ?_; (with_reducible refine (wave_Sine.calls k (wrap64 ((wrap64 (a0)) + (wrap64 ((wrap64 (1 + (Int.tmod (wrap64 (a2)) 16))) * (wrap64 (1 + (wrap64 (a1)))))))) (wrap64 (1 + (wrap64 (a1)))) t150 t151 _ A8.out).mono ?_); rintro e w' ⟨rfl, ⟨nd, rfl⟩⟩; refine ⟨_, rfl, ?_⟩) | ((with_reducible refine gate_callee (f := 24) rfl ?_); refine goesL_ (some 62) rfl rfl Try.func24 (by kernel_rfl) rfl #[.int .i64 (wrap64 ((wrap64 (a0)) * (wrap64 (1 + (Int.tmod (wrap64 (a2)) 16))))), .int .i64 (wrap64 ((wrap64 (1 + (wrap64 (a1)))) * (wrap64 (1 + (Int.tmod (wrap64 (a2)) 16)))))] rfl (by (try simp only [List.map_toArray, List.map_cons, List.map_nil]); first | done | rfl | (simp only [List.length_drop, List.length_take]; rfl)) ?_; (with_reducible refine (wave_Sine.calls k (wrap64 ((wrap64 (a0)) * (wrap64 (1 + (Int.tmod (wrap64 (a2)) 16))))) (wrap64 ((wrap64 (1 + (wrap64 (a1)))) * (wrap64 (1 + (Int.tmod (wrap64 (a2)) 16))))) t152 t153 _ A9.out).mono ?_); rintro e w' ⟨rfl, ⟨nd, rfl⟩⟩; refine ⟨_, rfl, ?_⟩) | ((with_reducible refine gate_callee (f := 26) rfl ?_); refine goesL_ (some 68) rfl rfl Try.func26 (by kernel_rfl) rfl #[.int .i64 (wrap64 (a0)), .int .i64 (wrap64 (1 + (wrap64 (a1))))] rfl (by (try simp only [List.map_toArray, List.map_cons, List.map_nil]); first | done | rfl | (simp only [List.length_drop, List.length_take]; rfl)) ?_; (with_reducible refine (wave_Cosine.calls k (wrap64 (a0)) (wrap64 (1 + (wrap64 (a1)))) t154 t155 _ A10.out).mono ?_); rintro e w' ⟨rfl, ⟨nd, rfl⟩⟩; refine ⟨_, rfl, ?_⟩))
        go_ret
        exact ⟨by first | rfl | (simp; done) | (simp [*]; done), by repeat (first | exact Drawn0.refl _ | apply Drawn0.step)⟩
    · rw [if_neg c11] at H
      have c11b0 : (t147 == 0) = false := beq_eq_false_iff_ne.mpr c11
      have c11b1 : (t147 != 0) = true := bne_iff_ne.mpr c11
      obtain rfl := Option.some.inj H
      go_enter Try.func6, Try.ntmps6
      go_wp2_with (first | ((with_reducible refine gate_callee (f := 23) rfl ?_); refine goesL_ (some 21) rfl rfl Try.func23 (by kernel_rfl) rfl #[] rfl (by (try simp only [List.map_toArray, List.map_cons, List.map_nil]); first | done | rfl | (simp only [List.length_drop, List.length_take]; rfl)) ?_; (with_reducible refine (psalterylaw03_alive.calls k  true _ A4.out).mono ?_); rintro e w' ⟨rfl, ⟨nd, rfl⟩⟩; refine ⟨_, rfl, ?_⟩) | ((with_reducible refine gate_callee (f := 24) rfl ?_); refine goesL_ (some 35) rfl rfl Try.func24 (by kernel_rfl) rfl #[.int .i64 (wrap64 (a0)), .int .i64 (wrap64 (1 + (wrap64 (a1))))] rfl (by (try simp only [List.map_toArray, List.map_cons, List.map_nil]); first | done | rfl | (simp only [List.length_drop, List.length_take]; rfl)) ?_; (with_reducible refine (wave_Sine.calls k (wrap64 (a0)) (wrap64 (1 + (wrap64 (a1)))) t146 t147 _ A6.out).mono ?_); rintro e w' ⟨rfl, ⟨nd, rfl⟩⟩; refine ⟨_, rfl, ?_⟩) | ((with_reducible refine gate_callee (f := 24) rfl ?_); refine goesL_ (some 42) rfl rfl Try.func24 (by kernel_rfl) rfl #[.int .i64 (wrap64 (-(wrap64 (a0)))), .int .i64 (wrap64 (1 + (wrap64 (a1))))] rfl (by (try simp only [List.map_toArray, List.map_cons, List.map_nil]); first | done | rfl | (simp only [List.length_drop, List.length_take]; rfl)) ?_; (with_reducible refine (wave_Sine.calls k (wrap64 (-(wrap64 (a0)))) (wrap64 (1 + (wrap64 (a1)))) t148 t149 _ A7.out).mono ?_); rintro e w' ⟨rfl, ⟨nd, rfl⟩⟩; refine ⟨_, rfl, ?_⟩) | ((with_reducible refine gate_callee (f := 24) rfl ?_); refine goesL_ (some 52) rfl rfl Try.func24 (by kernel_rfl) rfl #[.int .i64 (wrap64 ((wrap64 (a0)) + (wrap64 ((wrap64 (1 + (Int.tmod (wrap64 (a2)) 16))) * (wrap64 (1 + (wrap64 (a1)))))))), .int .i64 (wrap64 (1 + (wrap64 (a1))))] rfl (by (try simp only [List.map_toArray, List.map_cons, List.map_nil]); first | done | rfl | (simp only [List.length_drop, List.length_take]; rfl)) ?_; (with_reducible refine (wave_Sine.calls k (wrap64 ((wrap64 (a0)) + (wrap64 ((wrap64 (1 + (Int.tmod (wrap64 (a2)) 16))) * (wrap64 (1 + (wrap64 (a1)))))))) (wrap64 (1 + (wrap64 (a1)))) t150 t151 _ A8.out).mono ?_); rintro e w' ⟨rfl, ⟨nd, rfl⟩⟩; refine ⟨_, rfl, ?_⟩) | ((with_reducible refine gate_callee (f := 24) rfl ?_); refine goesL_ (some 62) rfl rfl Try.func24 (by kernel_rfl) rfl #[.int .i64 (wrap64 ((wrap64 (a0)) * (wrap64 (1 + (Int.tmod (wrap64 (a2)) 16))))), .int .i64 (wrap64 ((wrap64 (1 + (wrap64 (a1)))) * (wrap64 (1 + (Int.tmod (wrap64 (a2)) 16)))))] rfl (by (try simp only [List.map_toArray, List.map_cons, List.map_nil]); first | done | rfl | (simp only [List.length_drop, List.length_take]; rfl)) ?_; (with_reducible refine (wave_Sine.calls k (wrap64 ((wrap64 (a0)) * (wrap64 (1 + (Int.tmod (wrap64 (a2)) 16))))) (wrap64 ((wrap64 (1 + (wrap64 (a1)))) * (wrap64 (1 + (Int.tmod (wrap64 (a2)) 16))))) t152 t153 _ A9.out).mono ?_); rintro e w' ⟨rfl, ⟨nd, rfl⟩⟩; refine ⟨_, rfl, ?_⟩) | ((with_reducible refine gate_callee (f := 26) rfl ?_); refine goesL_ (some 68) rfl rfl Try.func26 (by kernel_rfl) rfl #[.int .i64 (wrap64 (a0)), .int .i64 (wrap64 (1 + (wrap64 (a1))))] rfl (by (try simp only [List.map_toArray, List.map_cons, List.map_nil]); first | done | rfl | (simp only [List.length_drop, List.length_take]; rfl)) ?_; (with_reducible refine (wave_Cosine.calls k (wrap64 (a0)) (wrap64 (1 + (wrap64 (a1)))) t154 t155 _ A10.out).mono ?_); rintro e w' ⟨rfl, ⟨nd, rfl⟩⟩; refine ⟨_, rfl, ?_⟩))
      go_ret
      exact ⟨by first | rfl | (simp; done) | (simp [*]; done), by repeat (first | exact Drawn0.refl _ | apply Drawn0.step)⟩
  · replace c5 := Bool.eq_false_iff.mpr c5
    subst c5
    have H1 : (some false) = some r := by rw [if_neg (show ¬ (false = true) by decide)] at H; exact H
    clear H
    have H := H1
    clear H1
    obtain rfl := Option.some.inj H
    go_enter Try.func6, Try.ntmps6
    go_wp2_with (first | ((with_reducible refine gate_callee (f := 23) rfl ?_); refine goesL_ (some 21) rfl rfl Try.func23 (by kernel_rfl) rfl #[] rfl (by (try simp only [List.map_toArray, List.map_cons, List.map_nil]); first | done | rfl | (simp only [List.length_drop, List.length_take]; rfl)) ?_; (with_reducible refine (psalterylaw03_alive.calls k  false _ A4.out).mono ?_); rintro e w' ⟨rfl, ⟨nd, rfl⟩⟩; refine ⟨_, rfl, ?_⟩))
    go_ret
    exact ⟨by first | rfl | (simp; done) | (simp [*]; done), by repeat (first | exact Drawn0.refl _ | apply Drawn0.step)⟩

/-- THE ONE PURE STATEMENT of psalterylaw03_WaveTurns: yours. -/
def psalterylaw03_WaveTurns.Pure : Prop := ∀ (a0 : Int) (a1 : Int) (a2 : Int), (Lit.int .i32 a0).wf = true → (Lit.int .u16 a1).wf = true → (Lit.int .u16 a2).wf = true → ∃ k, psalterylaw03_WaveTurns.f k a0 a1 a2 = some true
theorem psalterylaw03_WaveTurns.walk (P : psalterylaw03_WaveTurns.Pure) (a0 : Int) (a1 : Int) (a2 : Int) (w : World) (w0 : (Lit.int .i32 a0).wf = true) (w1 : (Lit.int .u16 a1).wf = true) (w2 : (Lit.int .u16 a2).wf = true) :
    Calls Try.prog 6 #[.int .i32 a0, .int .u16 a1, .int .u16 a2] w fun e w' => e = .returned (.bool true) ∧ Below w.heap.size w w' := by
  obtain ⟨k, h⟩ := P a0 a1 a2 w0 w1 w2
  refine (psalterylaw03_WaveTurns.calls k a0 a1 a2 true w h).mono ?_
  rintro e w' ⟨rfl, hd⟩
  exact ⟨rfl, hd.below⟩

end Go.Proofs.Ytgmgdbcfgbgnlaa.PWave
