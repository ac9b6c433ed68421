/- Contracts of the functions that the law Logs reaches: each Go function as a Lean function, and that the Go text comes to it. Written by programs (wip/tools), out of the program's own loaded form. -/
import Derived.Test.YtfipchhpnnjkeaaPLogsx0
import Derived.Test.YtfipchhpnnjkeaaPLogsx1
import Derived.Test.YtfipchhpnnjkeaaPLogsx2
namespace Go.Proofs.Ytfipchhpnnjkeaa.PLogs
open Go.RowKit Go.Proofs.YtfipchhpnnjkeaaW.PrintWords Go.Proofs.YtfipchhpnnjkeaaW.PrintLast Go.Proofs.YtfipchhpnnjkeaaW.PrintMore
attribute [local go_sem] max2_int min2_int max_two min_two max_three min_three max_four min_four   -- for this text's walks alone
set_option linter.unusedVariables false
set_option linter.unusedSimpArgs false

/-! ### psalteryref02_Exp: function 29 -/
mutual
def psalteryref02_Exp.j0 : Nat → Int → Bool → Option (Int × Int)
  | 0, _, _ => none
  | k + 1, x0, x15 => if x15 = true then (some (0, 1)) else ((psalteryref02_roots.f).bind fun t130 => (psalteryref02_Exp.l0 k (Int.tmod (wrap64 ((wrap64 (x0)) + 4096)) 256) (wrap64 ((wrap64 (Int.tdiv (wrap64 ((wrap64 (x0)) + 4096)) 256)) - 16)) 1073741824 t130 128 0))
def psalteryref02_Exp.l0 : Nat → Int → Int → Int → List Int → Int → Int → Option (Int × Int)
  | 0, _, _, _, _, _, _ => none
  | k + 1, x4, x5, x6, x7, x8, x9 => if x9 < 8 then (if x4 ≥ x8 then (if 0 ≤ x9 then (if x9 < (x7.length : Int) then (psalteryref02_Exp.l0 k (wrap64 (x4 - x8)) x5 (IntKind.u64.wrap (Int.tdiv (IntKind.u64.wrap (x6 * (rd x7 x9))) 1073741824)) x7 (wrap64 (Int.tdiv x8 2)) (wrap64 (x9 + 1))) else (none)) else (none)) else (psalteryref02_Exp.l0 k x4 x5 x6 x7 (wrap64 (Int.tdiv x8 2)) (wrap64 (x9 + 1)))) else (psalteryref02_Exp.l1 k x5 x6)
def psalteryref02_Exp.l1 : Nat → Int → Int → Option (Int × Int)
  | 0, _, _ => none
  | k + 1, x5, x6 => if x5 > 14 then (psalteryref02_Exp.l1 k (wrap64 (x5 - 1)) (IntKind.u64.wrap (x6 * 2))) else ((psalteryref01_Round.f (wrap64 (x6)) (wrap64 (14 - x5))).bind fun t134 => (some (IntKind.u64.wrap (t134), 0)))
end
def psalteryref02_Exp.f (k : Nat) (a0 : Int) : Option (Int × Int) := if a0 < (-4096) then (psalteryref02_Exp.j0 k a0 true) else (psalteryref02_Exp.j0 k a0 (decide (a0 > 7680)))
theorem psalteryref02_Exp.mono_l : ∀ k, (∀ y0 y1, LeO (psalteryref02_Exp.j0 k y0 y1) (psalteryref02_Exp.j0 (k + 1) y0 y1)) ∧ (∀ y0 y1 y2 y3 y4 y5, LeO (psalteryref02_Exp.l0 k y0 y1 y2 y3 y4 y5) (psalteryref02_Exp.l0 (k + 1) y0 y1 y2 y3 y4 y5)) ∧ (∀ y0 y1, LeO (psalteryref02_Exp.l1 k y0 y1) (psalteryref02_Exp.l1 (k + 1) y0 y1))
  | 0 => ⟨fun _ _ r h => by simp [psalteryref02_Exp.j0] at h, fun _ _ _ _ _ _ r h => by simp [psalteryref02_Exp.l0] at h, fun _ _ r h => by simp [psalteryref02_Exp.l1] at h⟩
  | k + 1 => by
    obtain ⟨ih0, ih1, ih2⟩ := psalteryref02_Exp.mono_l k
    refine ⟨?_, ?_, ?_⟩
    · intro y0 y1
      unfold psalteryref02_Exp.j0
      repeat' first
      | (with_reducible exact ih0 _ _)
      | (with_reducible exact ih1 _ _ _ _ _ _)
      | (with_reducible exact ih2 _ _)
      | (with_reducible exact LeO.refl _)
      | (with_reducible exact LeO.none _)
      | (with_reducible refine LeO.ite ?_ ?_)
      | (with_reducible refine LeO.bind ?_ (fun _ => ?_))
      | exact ih0 _ _
      | exact ih1 _ _ _ _ _ _
      | exact ih2 _ _
      | exact LeO.none _
      | refine LeO.ite ?_ ?_
      | refine LeO.bind ?_ (fun _ => ?_)
    · intro y0 y1 y2 y3 y4 y5
      unfold psalteryref02_Exp.l0
      repeat' first
      | (with_reducible exact ih0 _ _)
      | (with_reducible exact ih1 _ _ _ _ _ _)
      | (with_reducible exact ih2 _ _)
      | (with_reducible exact LeO.refl _)
      | (with_reducible exact LeO.none _)
      | (with_reducible refine LeO.ite ?_ ?_)
      | (with_reducible refine LeO.bind ?_ (fun _ => ?_))
      | exact ih0 _ _
      | exact ih1 _ _ _ _ _ _
      | exact ih2 _ _
      | exact LeO.none _
      | refine LeO.ite ?_ ?_
      | refine LeO.bind ?_ (fun _ => ?_)
    · intro y0 y1
      unfold psalteryref02_Exp.l1
      repeat' first
      | (with_reducible exact ih0 _ _)
      | (with_reducible exact ih1 _ _ _ _ _ _)
      | (with_reducible exact ih2 _ _)
      | (with_reducible exact LeO.refl _)
      | (with_reducible exact LeO.none _)
      | (with_reducible refine LeO.ite ?_ ?_)
      | (with_reducible refine LeO.bind ?_ (fun _ => ?_))
      | exact ih0 _ _
      | exact ih1 _ _ _ _ _ _
      | exact ih2 _ _
      | exact LeO.none _
      | refine LeO.ite ?_ ?_
      | refine LeO.bind ?_ (fun _ => ?_)
theorem psalteryref02_Exp.mono : ∀ a0 k, LeO (psalteryref02_Exp.f k a0) (psalteryref02_Exp.f (k + 1) a0) := by
  intro a0 k
  obtain ⟨ih0, ih1, ih2⟩ := psalteryref02_Exp.mono_l k
  unfold psalteryref02_Exp.f
  repeat' first
      | (with_reducible exact ih0 _ _)
      | (with_reducible exact ih1 _ _ _ _ _ _)
      | (with_reducible exact ih2 _ _)
      | (with_reducible exact LeO.refl _)
      | (with_reducible exact LeO.none _)
      | (with_reducible refine LeO.ite ?_ ?_)
      | (with_reducible refine LeO.bind ?_ (fun _ => ?_))
      | exact ih0 _ _
      | exact ih1 _ _ _ _ _ _
      | exact ih2 _ _
      | exact LeO.none _
      | refine LeO.ite ?_ ?_
      | refine LeO.bind ?_ (fun _ => ?_)
set_option maxHeartbeats 8000000 in
set_option maxRecDepth 100000 in
theorem psalteryref02_Exp.calls (k : Nat) (a0 : Int) (r1 : Int) (r2 : Int) (w : World) (h : psalteryref02_Exp.f k a0 = some (r1, r2)) :
    Calls Try.prog 29 #[.int .i32 a0] w fun e w' => e = .returned (.tuple #[.int .u64 r1, .int .i64 r2]) ∧ Below w.heap.size w w' := by
  have HB := Aside0.mk (Below.refl w.heap.size w)
  have H : (if a0 < (-4096) then (psalteryref02_Exp.j0 k a0 true) else (psalteryref02_Exp.j0 k a0 (decide (a0 > 7680)))) = some (r1, r2) := h
  clear h
  have HC2 := Aside0.mk H
  clear H
  go_enter Try.func29, Try.ntmps29
  go_upto_region 1 with (fail)
  go_cut [15] (fun v15 wc => ∃ (kq : Nat) (x15_1 : Bool), v15 = .bool x15_1 ∧ Aside0 (psalteryref02_Exp.j0 kq a0 x15_1 = some (r1, r2)) ∧ Aside0 (kq ≤ k) ∧ Aside0 (Below w.heap.size w wc))
  case first =>
    have H := HC2.out
    clear HC2
    by_cases c3 : a0 < (-4096)
    · rw [if_pos c3] at H
      have c3b0 : decide (a0 < (-4096)) = true := decide_eq_true c3
      clear c3
      (first | rw [c3b0] | (simp only [i64_w, i32_w]; rw [c3b0]) | skip)
      have H' := Aside0.mk H
      clear H
      go_wp2
      go_meet
      case rel => exact ⟨_, (true), (by first | rfl | (simp; done) | (simp [*]; done)), H', ⟨by first | omega | exact Nat.le_refl _⟩, ⟨by repeat (first | (with_reducible first | exact HB.out | apply below_alloc | apply pw_below_drewN | apply below_drew1) | exact HB.out)⟩⟩
    · rw [if_neg c3] at H
      have c3b0 : decide (a0 < (-4096)) = false := decide_eq_false c3
      clear c3
      (first | rw [c3b0] | (simp only [i64_w, i32_w]; rw [c3b0]) | skip)
      have H' := Aside0.mk H
      clear H
      go_wp2
      go_meet
      case rel => exact ⟨_, (decide (a0 > 7680)), (by first | rfl | (simp; done) | (simp [*]; done)), H', ⟨by first | omega | exact Nat.le_refl _⟩, ⟨by repeat (first | (with_reducible first | exact HB.out | apply below_alloc | apply pw_below_drewN | apply below_drew1) | exact HB.out)⟩⟩
  case rest =>
    clear HC2
    try clear c2
    try clear p2
    try clear c3
    try clear c3b0
    obtain ⟨kq, x15_1, rfl, HA, HJ1, HB⟩ := hcut
    cases kq with
    | zero => exact absurd HA.out (by simp [psalteryref02_Exp.j0])
    | succ kj1 =>
      have H := HA.out
      clear HA
      simp only [psalteryref02_Exp.j0] at H
      by_cases c4 : x15_1 = true
      · subst c4
        have H1 : (some (0, 1)) = some (r1, r2) := by rw [if_pos rfl] at H; exact H
        clear H
        have H := H1
        clear H1
        simp only [Option.some.injEq, Prod.mk.injEq] at H
        obtain ⟨rfl, rfl⟩ := H
        go_wp2
        go_ret2
        exact ⟨by first | rfl | (simp [errW_none, errW_some] <;> rfl) | (simp [*, errW_none, errW_some] <;> rfl), by repeat (first | (with_reducible first | exact HB.out | apply below_alloc | apply pw_below_drewN | apply below_drew1) | exact HB.out)⟩
      · replace c4 := Bool.eq_false_iff.mpr c4
        subst c4
        have H1 : ((psalteryref02_roots.f).bind fun t130 => (psalteryref02_Exp.l0 kj1 (Int.tmod (wrap64 ((wrap64 (a0)) + 4096)) 256) (wrap64 ((wrap64 (Int.tdiv (wrap64 ((wrap64 (a0)) + 4096)) 256)) - 16)) 1073741824 t130 128 0)) = some (r1, r2) := by rw [if_neg (show ¬ (false = true) by decide)] at H; exact H
        clear H
        have H := H1
        clear H1
        replace H := Option.bind_eq_some_iff.mp H
        obtain ⟨t130, A50, H⟩ := H
        replace H : (psalteryref02_Exp.l0 kj1 (Int.tmod (wrap64 ((wrap64 (a0)) + 4096)) 256) (wrap64 ((wrap64 (Int.tdiv (wrap64 ((wrap64 (a0)) + 4096)) 256)) - 16)) 1073741824 t130 128 0) = some (r1, r2) := H
        have A5 := Aside0.mk A50
        clear A50
        have H' := Aside0.mk H
        clear H
        go_wp2_with (first | ((with_reducible refine gate_callee (f := 52) rfl ?_); refine goesL_ (some 24) rfl rfl Try.func52 (by kernel_rfl) rfl #[] rfl (by (try simp only [List.map_toArray, List.map_cons, List.map_nil]); first | done | rfl | (simp only [List.length_drop, List.length_take]; rfl)) ?_; (with_reducible refine (psalteryref02_roots.calls  t130 _ A5.out).mono ?_); rintro e w6 ⟨v131, rfl, ho0, hb⟩; refine ⟨_, rfl, ?_⟩; have n0_ := Aside0.mk (Kd.R_lower ho0 (below_size (by repeat (first | (with_reducible first | exact HB.out | apply below_alloc | apply pw_below_drewN | apply below_drew1) | exact HB.out)))); have n1_ := Aside0.mk (below_step (by repeat (first | (with_reducible first | exact HB.out | apply below_alloc | apply pw_below_drewN | apply below_drew1) | exact HB.out)) hb); clear HB; have HO132 := n0_; have HB := n1_; clear n0_ n1_; (try clear hb); (try clear hb2); (try clear hk); (try clear hi); (try clear ho0)))
        go_loopg [4, 6, 8, 9] kj1 (fun kq v4 v6 v8 v9 w' => ∃ (x4_2 : Int) (x6_2 : Int) (x8_2 : Int) (x9_2 : Int), v4 = .int .i64 x4_2 ∧ v6 = .int .u64 x6_2 ∧ v8 = .int .i64 x8_2 ∧ v9 = .int .i64 x9_2 ∧ Aside0 (psalteryref02_Exp.l0 kq x4_2 (wrap64 ((wrap64 (Int.tdiv (wrap64 ((wrap64 (a0)) + 4096)) 256)) - 16)) x6_2 t130 x8_2 x9_2 = some (r1, r2)) ∧ Aside0 (kq ≤ kj1) ∧ Aside0 (Kd.R (Kd.int .u64) 25 w' w.heap.size (fun _ => True) v131 t130) ∧ Aside0 (Below w.heap.size w w'))
        case atStart => exact ⟨(Int.tmod (wrap64 ((wrap64 (a0)) + 4096)) 256), (1073741824), (128), (0), (by first | rfl | (simp; done) | (simp [*]; done)), (by first | rfl | (simp; done) | (simp [*]; done)), (by first | rfl | (simp; done) | (simp [*]; done)), (by first | rfl | (simp; done) | (simp [*]; done)), H', ⟨Nat.le_refl _⟩, ⟨by (with_reducible repeat (first | apply Kd.R_alloc | apply Kd.R_drewN | apply Kd.R_drew)); exact HO132.out⟩, ⟨by repeat (first | (with_reducible first | exact HB.out | apply below_alloc | apply pw_below_drewN | apply below_drew1) | exact HB.out)⟩⟩
        case round =>
          clear H'
          try clear c2
          try clear p2
          try clear c3
          try clear c3b0
          try clear c4
          try clear c5
          try clear p6
          try clear p2
          obtain ⟨x4_2, x6_2, x8_2, x9_2, rfl, rfl, rfl, rfl, HA, HK2, HO_7, HB⟩ := hrel
          cases gk with
          | zero => exact absurd HA.out (by simp [psalteryref02_Exp.l0])
          | succ k2 =>
            have H := HA.out
            clear HA
            simp only [psalteryref02_Exp.l0] at H
            by_cases c7 : x9_2 < 8
            · rw [if_pos c7] at H
              have c7b0 : decide (x9_2 < 8) = true := decide_eq_true c7
              clear c7
              by_cases c8 : x4_2 ≥ x8_2
              · rw [if_pos c8] at H
                have c8b0 : decide (x8_2 ≤ x4_2) = true := decide_eq_true c8
                clear c8
                by_cases c9 : 0 ≤ x9_2
                · rw [if_pos c9] at H
                  have c9b0 : decide (0 ≤ x9_2) = true := decide_eq_true c9
                  clear c9
                  by_cases c10 : x9_2 < (t130.length : Int)
                  · rw [if_pos c10] at H
                    have c10b0 : decide (x9_2 < (t130.length : Int)) = true := decide_eq_true c10
                    clear c10
                    have H' := Aside0.mk H
                    clear H
                    obtain ⟨Ao11, co11, eo11⟩ := Kd.R_slice HO_7.out
                    subst eo11
                    have p133 : 0 ≤ (x9_2 : Int) := of_decide_eq_true (by first | (with_reducible assumption) | assumption)
                    have q133 : x9_2 < (t130.length : Int) := of_decide_eq_true (by first | (with_reducible assumption) | assumption)
                    obtain ⟨ad133, e133, hx133_0⟩ := Kd.at_int (Kd.R_reads' HO_7.out).2.2 x9_2 p133 q133
                    cases e133
                    replace p133 := eq_true p133
                    replace q133 := eq_true q133
                    go_wp2
                    go_roundg k2
                    case measure => have := HJ1.out; have := HK2.out; omega
                    case rel => exact ⟨(wrap64 (x4_2 - x8_2)), (IntKind.u64.wrap (Int.tdiv (IntKind.u64.wrap (x6_2 * (rd t130 x9_2))) 1073741824)), (wrap64 (Int.tdiv x8_2 2)), (wrap64 (x9_2 + 1)), (by first | rfl | (simp; done) | (simp [*]; done)), (by first | rfl | (simp; done) | (simp [*]; done)), (by first | rfl | (simp; done) | (simp [*]; done)), (by first | rfl | (simp; done) | (simp [*]; done)), H', ⟨by have := HJ1.out; have := HK2.out; omega⟩, ⟨by (with_reducible repeat (first | apply Kd.R_alloc | apply Kd.R_drewN | apply Kd.R_drew)); exact HO_7.out⟩, ⟨by repeat (first | (with_reducible first | exact HB.out | apply below_alloc | apply pw_below_drewN | apply below_drew1) | exact HB.out)⟩⟩
                  · rw [if_neg c10] at H
                    exact absurd H (by simp)
                · rw [if_neg c9] at H
                  exact absurd H (by simp)
              · rw [if_neg c8] at H
                have c8b0 : decide (x8_2 ≤ x4_2) = false := decide_eq_false c8
                clear c8
                have H' := Aside0.mk H
                clear H
                go_wp2
                go_roundg k2
                case measure => have := HJ1.out; have := HK2.out; omega
                case rel => exact ⟨(x4_2), (x6_2), (wrap64 (Int.tdiv x8_2 2)), (wrap64 (x9_2 + 1)), (by first | rfl | (simp; done) | (simp [*]; done)), (by first | rfl | (simp; done) | (simp [*]; done)), (by first | rfl | (simp; done) | (simp [*]; done)), (by first | rfl | (simp; done) | (simp [*]; done)), H', ⟨by have := HJ1.out; have := HK2.out; omega⟩, ⟨by (with_reducible repeat (first | apply Kd.R_alloc | apply Kd.R_drewN | apply Kd.R_drew)); exact HO_7.out⟩, ⟨by repeat (first | (with_reducible first | exact HB.out | apply below_alloc | apply pw_below_drewN | apply below_drew1) | exact HB.out)⟩⟩
            · rw [if_neg c7] at H
              have c7b0 : decide (x9_2 < 8) = false := decide_eq_false c7
              clear c7
              have H' := Aside0.mk H
              clear H
              go_wp2
              go_loopg [5, 6] k2 (fun kq v5 v6 w' => ∃ (x5_3 : Int) (x6_3 : Int), v5 = .int .i64 x5_3 ∧ v6 = .int .u64 x6_3 ∧ Aside0 (psalteryref02_Exp.l1 kq x5_3 x6_3 = some (r1, r2)) ∧ Aside0 (kq ≤ k2) ∧ Aside0 (Below w.heap.size w w'))
              case atStart => exact ⟨((wrap64 ((wrap64 (Int.tdiv (wrap64 ((wrap64 (a0)) + 4096)) 256)) - 16))), (x6_2), (by first | rfl | (simp; done) | (simp [*]; done)), (by first | rfl | (simp; done) | (simp [*]; done)), H', ⟨Nat.le_refl _⟩, ⟨by repeat (first | (with_reducible first | exact HB.out | apply below_alloc | apply pw_below_drewN | apply below_drew1) | exact HB.out)⟩⟩
              case round =>
                clear H'
                try clear c1
                try clear p1
                try clear q1
                try clear hx1
                try clear c2
                try clear p2
                try clear c3
                try clear c3b0
                try clear c4
                try clear c5
                try clear p6
                try clear c7
                try clear c7b0
                try clear c8
                try clear c8b0
                try clear c9
                try clear c9b0
                try clear c10
                try clear c10b0
                try clear hx133_0
                try clear p133
                try clear p2
                try clear p6
                try clear q133
                obtain ⟨x5_3, x6_3, rfl, rfl, HA, HK3, HB⟩ := hrel
                cases gk with
                | zero => exact absurd HA.out (by simp [psalteryref02_Exp.l1])
                | succ k3 =>
                  have H := HA.out
                  clear HA
                  simp only [psalteryref02_Exp.l1] at H
                  by_cases c12 : x5_3 > 14
                  · rw [if_pos c12] at H
                    have c12b0 : decide (14 < x5_3) = true := decide_eq_true c12
                    clear c12
                    have H' := Aside0.mk H
                    clear H
                    go_wp2
                    go_roundg k3
                    case measure => have := HJ1.out; have := HK2.out; have := HK3.out; omega
                    case rel => exact ⟨(wrap64 (x5_3 - 1)), (IntKind.u64.wrap (x6_3 * 2)), (by first | rfl | (simp; done) | (simp [*]; done)), (by first | rfl | (simp; done) | (simp [*]; done)), H', ⟨by have := HJ1.out; have := HK2.out; have := HK3.out; omega⟩, ⟨by repeat (first | (with_reducible first | exact HB.out | apply below_alloc | apply pw_below_drewN | apply below_drew1) | exact HB.out)⟩⟩
                  · rw [if_neg c12] at H
                    have c12b0 : decide (14 < x5_3) = false := decide_eq_false c12
                    clear c12
                    replace H := Option.bind_eq_some_iff.mp H
                    obtain ⟨t134, A130, H⟩ := H
                    replace H : (some (IntKind.u64.wrap (t134), 0)) = some (r1, r2) := H
                    have A13 := Aside0.mk A130
                    clear A130
                    simp only [Option.some.injEq, Prod.mk.injEq] at H
                    obtain ⟨rfl, rfl⟩ := H
                    go_wp2_with (first | ((with_reducible refine gate_callee (f := 53) rfl ?_); refine goesL_ (some 54) rfl rfl Try.func53 (by kernel_rfl) rfl #[.int .i64 (wrap64 (x6_3)), .int .i64 (wrap64 (14 - x5_3))] rfl (by (try simp only [List.map_toArray, List.map_cons, List.map_nil]); first | done | rfl | (simp only [List.length_drop, List.length_take]; rfl)) ?_; (with_reducible refine (psalteryref01_Round.calls (wrap64 (x6_3)) (wrap64 (14 - x5_3)) t134 _ A13.out).mono ?_); rintro e w14 ⟨rfl, hb⟩; refine ⟨_, rfl, ?_⟩; have n0_ := Aside0.mk (below_step (by repeat (first | (with_reducible first | exact HB.out | apply below_alloc | apply pw_below_drewN | apply below_drew1) | exact HB.out)) hb); clear HB; have HB := n0_; clear n0_; (try clear hb); (try clear hb2); (try clear hk); (try clear hi)))
                    go_ret2
                    exact ⟨by first | rfl | (simp [errW_none, errW_some] <;> rfl) | (simp [*, errW_none, errW_some] <;> rfl), by repeat (first | (with_reducible first | exact HB.out | apply below_alloc | apply pw_below_drewN | apply below_drew1) | exact HB.out)⟩

/-! ### psalterylaw02_LogsPower: function 6 -/
def psalterylaw02_LogsPower.f (k : Nat) (a0 : Int) : Option (Bool) := (psalterylaw02_alive.f k).bind fun t135 => (if t135 = true then ((logs_Exp.f k a0).bind fun bt136 => ((psalteryref02_Exp.f k a0).bind fun bt138 => (if bt136.1 = bt138.1 then (some (bt136.2 == bt138.2)) else (some false)))) else (some false))
theorem psalterylaw02_LogsPower.mono : ∀ a0 k, LeO (psalterylaw02_LogsPower.f k a0) (psalterylaw02_LogsPower.f (k + 1) a0) := by
  intro a0 k
  unfold psalterylaw02_LogsPower.f
  repeat' first
      | (with_reducible exact logs_Exp.mono _ _)
      | (with_reducible exact psalterylaw02_alive.mono _)
      | (with_reducible exact psalteryref02_Exp.mono _ _)
      | (with_reducible exact LeO.refl _)
      | (with_reducible exact LeO.none _)
      | (with_reducible refine LeO.ite ?_ ?_)
      | (with_reducible refine LeO.bind ?_ (fun _ => ?_))
      | exact logs_Exp.mono _ _
      | exact psalterylaw02_alive.mono _
      | exact psalteryref02_Exp.mono _ _
      | exact LeO.none _
      | refine LeO.ite ?_ ?_
      | refine LeO.bind ?_ (fun _ => ?_)
set_option maxHeartbeats 8000000 in
set_option maxRecDepth 100000 in
theorem psalterylaw02_LogsPower.calls (k : Nat) (a0 : Int) (r : Bool) (w : World) (h : psalterylaw02_LogsPower.f k a0 = some r) :
    Calls Try.prog 6 #[.int .i32 a0] w fun e w' => e = .returned (.bool r) ∧ Below w.heap.size w w' := by
  have HB := Aside0.mk (Below.refl w.heap.size w)
  have H : ((psalterylaw02_alive.f k).bind fun t135 => (if t135 = true then ((logs_Exp.f k a0).bind fun bt136 => ((psalteryref02_Exp.f k a0).bind fun bt138 => (if bt136.1 = bt138.1 then (some (bt136.2 == bt138.2)) else (some false)))) else (some false))) = some r := h
  clear h
  replace H := Option.bind_eq_some_iff.mp H
  obtain ⟨t135, A20, H⟩ := H
  replace H : (if t135 = true then ((logs_Exp.f k a0).bind fun bt136 => ((psalteryref02_Exp.f k a0).bind fun bt138 => (if bt136.1 = bt138.1 then (some (bt136.2 == bt138.2)) else (some false)))) else (some false)) = some r := H
  have A2 := Aside0.mk A20
  clear A20
  by_cases c3 : t135 = true
  · subst c3
    have H1 : ((logs_Exp.f k a0).bind fun bt136 => ((psalteryref02_Exp.f k a0).bind fun bt138 => (if bt136.1 = bt138.1 then (some (bt136.2 == bt138.2)) else (some false)))) = some r := by rw [if_pos rfl] at H; exact H
    clear H
    have H := H1
    clear H1
    replace H := Option.bind_eq_some_iff.mp H
    obtain ⟨⟨t136, t137⟩, A40, H⟩ := H
    replace H : ((psalteryref02_Exp.f k a0).bind fun bt138 => (if t136 = bt138.1 then (some (t137 == bt138.2)) else (some false))) = some r := H
    have A4 := Aside0.mk A40
    clear A40
    replace H := Option.bind_eq_some_iff.mp H
    obtain ⟨⟨t138, t139⟩, A50, H⟩ := H
    replace H : (if t136 = t138 then (some (t137 == t139)) else (some false)) = some r := H
    have A5 := Aside0.mk A50
    clear A50
    by_cases c6 : t136 = t138
    · rw [if_pos c6] at H
      have c6b0 : (t136 == t138) = true := beq_iff_eq.mpr c6
      have c6b1 : (t136 != t138) = false := bne_eq_false_iff_eq.mpr c6
      clear c6
      obtain rfl := Option.some.inj H
      go_enter Try.func6, Try.ntmps6
      go_wp2_with (first | ((with_reducible refine gate_callee (f := 21) rfl ?_); refine goesL_ (some 7) rfl rfl Try.func21 (by kernel_rfl) rfl #[] rfl (by (try simp only [List.map_toArray, List.map_cons, List.map_nil]); first | done | rfl | (simp only [List.length_drop, List.length_take]; rfl)) ?_; (with_reducible refine (psalterylaw02_alive.calls k  true _ A2.out).mono ?_); rintro e w7 ⟨rfl, hb⟩; refine ⟨_, rfl, ?_⟩; have n0_ := Aside0.mk (below_step (by repeat (first | (with_reducible first | exact HB.out | apply below_alloc | apply pw_below_drewN | apply below_drew1) | exact HB.out)) hb); clear HB; have HB := n0_; clear n0_; (try clear hb); (try clear hb2); (try clear hk); (try clear hi)) | ((with_reducible refine gate_callee (f := 28) rfl ?_); refine goesL_ (some 11) rfl rfl Try.func28 (by kernel_rfl) rfl #[.int .i32 a0] rfl (by (try simp only [List.map_toArray, List.map_cons, List.map_nil]); first | done | rfl | (simp only [List.length_drop, List.length_take]; rfl)) ?_; (with_reducible refine (logs_Exp.calls k a0 t136 t137 _ A4.out).mono ?_); rintro e w' ⟨rfl, ⟨nd, rfl⟩⟩; refine ⟨_, rfl, ?_⟩) | ((with_reducible refine gate_callee (f := 29) rfl ?_); refine goesL_ (some 16) rfl rfl Try.func29 (by kernel_rfl) rfl #[.int .i32 a0] rfl (by (try simp only [List.map_toArray, List.map_cons, List.map_nil]); first | done | rfl | (simp only [List.length_drop, List.length_take]; rfl)) ?_; (with_reducible refine (psalteryref02_Exp.calls k a0 t138 t139 _ A5.out).mono ?_); rintro e w8 ⟨rfl, hb⟩; refine ⟨_, rfl, ?_⟩; have n0_ := Aside0.mk (below_step (by repeat (first | (with_reducible first | exact HB.out | apply below_alloc | apply pw_below_drewN | apply below_drew1) | exact HB.out)) hb); clear HB; have HB := n0_; clear n0_; (try clear hb); (try clear hb2); (try clear hk); (try clear hi)))
      go_ret
      exact ⟨by first | rfl | (simp [errW_none, errW_some] <;> rfl) | (simp [*, errW_none, errW_some] <;> rfl), by repeat (first | (with_reducible first | exact HB.out | apply below_alloc | apply pw_below_drewN | apply below_drew1) | exact HB.out)⟩
    · rw [if_neg c6] at H
      have c6b0 : (t136 == t138) = false := beq_eq_false_iff_ne.mpr c6
      have c6b1 : (t136 != t138) = true := bne_iff_ne.mpr c6
      obtain rfl := Option.some.inj H
      go_enter Try.func6, Try.ntmps6
      go_wp2_with (first | ((with_reducible refine gate_callee (f := 21) rfl ?_); refine goesL_ (some 7) rfl rfl Try.func21 (by kernel_rfl) rfl #[] rfl (by (try simp only [List.map_toArray, List.map_cons, List.map_nil]); first | done | rfl | (simp only [List.length_drop, List.length_take]; rfl)) ?_; (with_reducible refine (psalterylaw02_alive.calls k  true _ A2.out).mono ?_); rintro e w9 ⟨rfl, hb⟩; refine ⟨_, rfl, ?_⟩; have n0_ := Aside0.mk (below_step (by repeat (first | (with_reducible first | exact HB.out | apply below_alloc | apply pw_below_drewN | apply below_drew1) | exact HB.out)) hb); clear HB; have HB := n0_; clear n0_; (try clear hb); (try clear hb2); (try clear hk); (try clear hi)) | ((with_reducible refine gate_callee (f := 28) rfl ?_); refine goesL_ (some 11) rfl rfl Try.func28 (by kernel_rfl) rfl #[.int .i32 a0] rfl (by (try simp only [List.map_toArray, List.map_cons, List.map_nil]); first | done | rfl | (simp only [List.length_drop, List.length_take]; rfl)) ?_; (with_reducible refine (logs_Exp.calls k a0 t136 t137 _ A4.out).mono ?_); rintro e w' ⟨rfl, ⟨nd, rfl⟩⟩; refine ⟨_, rfl, ?_⟩) | ((with_reducible refine gate_callee (f := 29) rfl ?_); refine goesL_ (some 16) rfl rfl Try.func29 (by kernel_rfl) rfl #[.int .i32 a0] rfl (by (try simp only [List.map_toArray, List.map_cons, List.map_nil]); first | done | rfl | (simp only [List.length_drop, List.length_take]; rfl)) ?_; (with_reducible refine (psalteryref02_Exp.calls k a0 t138 t139 _ A5.out).mono ?_); rintro e w10 ⟨rfl, hb⟩; refine ⟨_, rfl, ?_⟩; have n0_ := Aside0.mk (below_step (by repeat (first | (with_reducible first | exact HB.out | apply below_alloc | apply pw_below_drewN | apply below_drew1) | exact HB.out)) hb); clear HB; have HB := n0_; clear n0_; (try clear hb); (try clear hb2); (try clear hk); (try clear hi)))
      go_ret
      exact ⟨by first | rfl | (simp [errW_none, errW_some] <;> rfl) | (simp [*, errW_none, errW_some] <;> rfl), by repeat (first | (with_reducible first | exact HB.out | apply below_alloc | apply pw_below_drewN | apply below_drew1) | exact HB.out)⟩
  · replace c3 := Bool.eq_false_iff.mpr c3
    subst c3
    have H1 : (some false) = some r := by rw [if_neg (show ¬ (false = true) by decide)] at H; exact H
    clear H
    have H := H1
    clear H1
    obtain rfl := Option.some.inj H
    go_enter Try.func6, Try.ntmps6
    go_wp2_with (first | ((with_reducible refine gate_callee (f := 21) rfl ?_); refine goesL_ (some 7) rfl rfl Try.func21 (by kernel_rfl) rfl #[] rfl (by (try simp only [List.map_toArray, List.map_cons, List.map_nil]); first | done | rfl | (simp only [List.length_drop, List.length_take]; rfl)) ?_; (with_reducible refine (psalterylaw02_alive.calls k  false _ A2.out).mono ?_); rintro e w11 ⟨rfl, hb⟩; refine ⟨_, rfl, ?_⟩; have n0_ := Aside0.mk (below_step (by repeat (first | (with_reducible first | exact HB.out | apply below_alloc | apply pw_below_drewN | apply below_drew1) | exact HB.out)) hb); clear HB; have HB := n0_; clear n0_; (try clear hb); (try clear hb2); (try clear hk); (try clear hi)))
    go_ret
    exact ⟨by first | rfl | (simp [errW_none, errW_some] <;> rfl) | (simp [*, errW_none, errW_some] <;> rfl), by repeat (first | (with_reducible first | exact HB.out | apply below_alloc | apply pw_below_drewN | apply below_drew1) | exact HB.out)⟩

/-- THE ONE PURE STATEMENT of psalterylaw02_LogsPower: yours. -/
def psalterylaw02_LogsPower.Pure : Prop := ∀ (a0 : Int), (Lit.int .i32 a0).wf = true → ∃ k, psalterylaw02_LogsPower.f k a0 = some true
theorem psalterylaw02_LogsPower.walk (P : psalterylaw02_LogsPower.Pure) (a0 : Int) (w : World) (w0 : (Lit.int .i32 a0).wf = true) :
    Calls Try.prog 6 #[.int .i32 a0] w fun e w' => e = .returned (.bool true) ∧ Below w.heap.size w w' := by
  obtain ⟨k, h⟩ := P a0 w0
  refine (psalterylaw02_LogsPower.calls k a0 true w h).mono ?_
  rintro e w' ⟨rfl, hd⟩
  exact ⟨rfl, hd⟩

/-! ### psalterylaw02_LogsGrow: function 7 -/
mutual
def psalterylaw02_LogsGrow.j0 : Nat → Int → Int → Int → Int → Bool → Option (Bool)
  | 0, _, _, _, _, _ => none
  | k + 1, x0, x1, x2, x3, x40 => if x40 = true then (some false) else ((logs_Log.f k x0).bind fun bt142 => ((logs_Log.f k x1).bind fun bt144 => (if ((bt142.2 == 0) != (decide (x0 > 0))) = true then (psalterylaw02_LogsGrow.j1 k x0 x2 x3 bt142.1 bt142.2 true) else (if bt142.2 = 0 then (if bt144.2 = 0 then (if x0 ≤ x1 then (psalterylaw02_LogsGrow.j1 k x0 x2 x3 bt142.1 bt142.2 (decide (bt142.1 > bt144.1))) else (psalterylaw02_LogsGrow.j1 k x0 x2 x3 bt142.1 bt142.2 false)) else (psalterylaw02_LogsGrow.j1 k x0 x2 x3 bt142.1 bt142.2 false)) else (psalterylaw02_LogsGrow.j1 k x0 x2 x3 bt142.1 bt142.2 false)))))
def psalterylaw02_LogsGrow.j1 : Nat → Int → Int → Int → Int → Int → Bool → Option (Bool)
  | 0, _, _, _, _, _, _ => none
  | k + 1, x0, x2, x3, x10, x11, x73 => if x73 = true then (some false) else (if x11 = 0 then (if x10 < 0 then (psalterylaw02_LogsGrow.j2 k x2 x3 true) else ((logs_Bits.f k x0).bind fun t146 => (psalterylaw02_LogsGrow.j2 k x2 x3 ((wrap64 (Int.tdiv (wrap64 (x10)) 256)) != (wrap64 (t146 - 1)))))) else (psalterylaw02_LogsGrow.j2 k x2 x3 false))
def psalterylaw02_LogsGrow.j2 : Nat → Int → Int → Bool → Option (Bool)
  | 0, _, _, _ => none
  | k + 1, x2, x3, x88 => if x88 = true then (some false) else ((logs_Exp.f k x2).bind fun bt147 => ((logs_Exp.f k x3).bind fun bt149 => (if bt147.2 = 0 then (if bt149.2 = 0 then (if x2 > x3 then (some true) else (some (decide (bt147.1 ≤ bt149.1)))) else (some true)) else (some true))))
end
def psalterylaw02_LogsGrow.f (k : Nat) (a0 : Int) (a1 : Int) (a2 : Int) (a3 : Int) : Option (Bool) := (psalterylaw02_alive.f k).bind fun t140 => (if t140 = true then ((logs_Root.f k a0).bind fun t141 => (if (IntKind.u64.wrap ((IntKind.u64.wrap (t141)) * (IntKind.u64.wrap (t141)))) > a0 then (psalterylaw02_LogsGrow.j0 k a0 a1 a2 a3 true) else (if (IntKind.u64.wrap (t141)) < 4294967295 then (psalterylaw02_LogsGrow.j0 k a0 a1 a2 a3 (decide ((IntKind.u64.wrap ((IntKind.u64.wrap ((IntKind.u64.wrap (t141)) + 1)) * (IntKind.u64.wrap ((IntKind.u64.wrap (t141)) + 1)))) ≤ a0))) else (psalterylaw02_LogsGrow.j0 k a0 a1 a2 a3 false)))) else (some false))
theorem psalterylaw02_LogsGrow.mono_l : ∀ k, (∀ y0 y1 y2 y3 y4, LeO (psalterylaw02_LogsGrow.j0 k y0 y1 y2 y3 y4) (psalterylaw02_LogsGrow.j0 (k + 1) y0 y1 y2 y3 y4)) ∧ (∀ y0 y1 y2 y3 y4 y5, LeO (psalterylaw02_LogsGrow.j1 k y0 y1 y2 y3 y4 y5) (psalterylaw02_LogsGrow.j1 (k + 1) y0 y1 y2 y3 y4 y5)) ∧ (∀ y0 y1 y2, LeO (psalterylaw02_LogsGrow.j2 k y0 y1 y2) (psalterylaw02_LogsGrow.j2 (k + 1) y0 y1 y2))
  | 0 => ⟨fun _ _ _ _ _ r h => by simp [psalterylaw02_LogsGrow.j0] at h, fun _ _ _ _ _ _ r h => by simp [psalterylaw02_LogsGrow.j1] at h, fun _ _ _ r h => by simp [psalterylaw02_LogsGrow.j2] at h⟩
  | k + 1 => by
    obtain ⟨ih0, ih1, ih2⟩ := psalterylaw02_LogsGrow.mono_l k
    refine ⟨?_, ?_, ?_⟩
    · intro y0 y1 y2 y3 y4
      unfold psalterylaw02_LogsGrow.j0
      repeat' first
      | (with_reducible exact ih0 _ _ _ _ _)
      | (with_reducible exact ih1 _ _ _ _ _ _)
      | (with_reducible exact ih2 _ _ _)
      | (with_reducible exact logs_Bits.mono _ _)
      | (with_reducible exact logs_Exp.mono _ _)
      | (with_reducible exact logs_Log.mono _ _)
      | (with_reducible exact logs_Root.mono _ _)
      | (with_reducible exact psalterylaw02_alive.mono _)
      | (with_reducible exact LeO.refl _)
      | (with_reducible exact LeO.none _)
      | (with_reducible refine LeO.ite ?_ ?_)
      | (with_reducible refine LeO.bind ?_ (fun _ => ?_))
      | exact ih0 _ _ _ _ _
      | exact ih1 _ _ _ _ _ _
      | exact ih2 _ _ _
      | exact logs_Bits.mono _ _
      | exact logs_Exp.mono _ _
      | exact logs_Log.mono _ _
      | exact logs_Root.mono _ _
      | exact psalterylaw02_alive.mono _
      | exact LeO.none _
      | refine LeO.ite ?_ ?_
      | refine LeO.bind ?_ (fun _ => ?_)
    · intro y0 y1 y2 y3 y4 y5
      unfold psalterylaw02_LogsGrow.j1
      repeat' first
      | (with_reducible exact ih0 _ _ _ _ _)
      | (with_reducible exact ih1 _ _ _ _ _ _)
      | (with_reducible exact ih2 _ _ _)
      | (with_reducible exact logs_Bits.mono _ _)
      | (with_reducible exact logs_Exp.mono _ _)
      | (with_reducible exact logs_Log.mono _ _)
      | (with_reducible exact logs_Root.mono _ _)
      | (with_reducible exact psalterylaw02_alive.mono _)
      | (with_reducible exact LeO.refl _)
      | (with_reducible exact LeO.none _)
      | (with_reducible refine LeO.ite ?_ ?_)
      | (with_reducible refine LeO.bind ?_ (fun _ => ?_))
      | exact ih0 _ _ _ _ _
      | exact ih1 _ _ _ _ _ _
      | exact ih2 _ _ _
      | exact logs_Bits.mono _ _
      | exact logs_Exp.mono _ _
      | exact logs_Log.mono _ _
      | exact logs_Root.mono _ _
      | exact psalterylaw02_alive.mono _
      | exact LeO.none _
      | refine LeO.ite ?_ ?_
      | refine LeO.bind ?_ (fun _ => ?_)
    · intro y0 y1 y2
      unfold psalterylaw02_LogsGrow.j2
      repeat' first
      | (with_reducible exact ih0 _ _ _ _ _)
      | (with_reducible exact ih1 _ _ _ _ _ _)
      | (with_reducible exact ih2 _ _ _)
      | (with_reducible exact logs_Bits.mono _ _)
      | (with_reducible exact logs_Exp.mono _ _)
      | (with_reducible exact logs_Log.mono _ _)
      | (with_reducible exact logs_Root.mono _ _)
      | (with_reducible exact psalterylaw02_alive.mono _)
      | (with_reducible exact LeO.refl _)
      | (with_reducible exact LeO.none _)
      | (with_reducible refine LeO.ite ?_ ?_)
      | (with_reducible refine LeO.bind ?_ (fun _ => ?_))
      | exact ih0 _ _ _ _ _
      | exact ih1 _ _ _ _ _ _
      | exact ih2 _ _ _
      | exact logs_Bits.mono _ _
      | exact logs_Exp.mono _ _
      | exact logs_Log.mono _ _
      | exact logs_Root.mono _ _
      | exact psalterylaw02_alive.mono _
      | exact LeO.none _
      | refine LeO.ite ?_ ?_
      | refine LeO.bind ?_ (fun _ => ?_)
theorem psalterylaw02_LogsGrow.mono : ∀ a0 a1 a2 a3 k, LeO (psalterylaw02_LogsGrow.f k a0 a1 a2 a3) (psalterylaw02_LogsGrow.f (k + 1) a0 a1 a2 a3) := by
  intro a0 a1 a2 a3 k
  obtain ⟨ih0, ih1, ih2⟩ := psalterylaw02_LogsGrow.mono_l k
  unfold psalterylaw02_LogsGrow.f
  repeat' first
      | (with_reducible exact ih0 _ _ _ _ _)
      | (with_reducible exact ih1 _ _ _ _ _ _)
      | (with_reducible exact ih2 _ _ _)
      | (with_reducible exact logs_Bits.mono _ _)
      | (with_reducible exact logs_Exp.mono _ _)
      | (with_reducible exact logs_Log.mono _ _)
      | (with_reducible exact logs_Root.mono _ _)
      | (with_reducible exact psalterylaw02_alive.mono _)
      | (with_reducible exact LeO.refl _)
      | (with_reducible exact LeO.none _)
      | (with_reducible refine LeO.ite ?_ ?_)
      | (with_reducible refine LeO.bind ?_ (fun _ => ?_))
      | exact ih0 _ _ _ _ _
      | exact ih1 _ _ _ _ _ _
      | exact ih2 _ _ _
      | exact logs_Bits.mono _ _
      | exact logs_Exp.mono _ _
      | exact logs_Log.mono _ _
      | exact logs_Root.mono _ _
      | exact psalterylaw02_alive.mono _
      | exact LeO.none _
      | refine LeO.ite ?_ ?_
      | refine LeO.bind ?_ (fun _ => ?_)
set_option maxHeartbeats 8000000 in
set_option maxRecDepth 100000 in
theorem psalterylaw02_LogsGrow.calls (k : Nat) (a0 : Int) (a1 : Int) (a2 : Int) (a3 : Int) (r : Bool) (w : World) (h : psalterylaw02_LogsGrow.f k a0 a1 a2 a3 = some r) :
    Calls Try.prog 7 #[.int .u64 a0, .int .u64 a1, .int .i32 a2, .int .i32 a3] w fun e w' => e = .returned (.bool r) ∧ Below w.heap.size w w' := by
  have HB := Aside0.mk (Below.refl w.heap.size w)
  have H : ((psalterylaw02_alive.f k).bind fun t140 => (if t140 = true then ((logs_Root.f k a0).bind fun t141 => (if (IntKind.u64.wrap ((IntKind.u64.wrap (t141)) * (IntKind.u64.wrap (t141)))) > a0 then (psalterylaw02_LogsGrow.j0 k a0 a1 a2 a3 true) else (if (IntKind.u64.wrap (t141)) < 4294967295 then (psalterylaw02_LogsGrow.j0 k a0 a1 a2 a3 (decide ((IntKind.u64.wrap ((IntKind.u64.wrap ((IntKind.u64.wrap (t141)) + 1)) * (IntKind.u64.wrap ((IntKind.u64.wrap (t141)) + 1)))) ≤ a0))) else (psalterylaw02_LogsGrow.j0 k a0 a1 a2 a3 false)))) else (some false))) = some r := h
  clear h
  replace H := Option.bind_eq_some_iff.mp H
  obtain ⟨t140, A50, H⟩ := H
  replace H : (if t140 = true then ((logs_Root.f k a0).bind fun t141 => (if (IntKind.u64.wrap ((IntKind.u64.wrap (t141)) * (IntKind.u64.wrap (t141)))) > a0 then (psalterylaw02_LogsGrow.j0 k a0 a1 a2 a3 true) else (if (IntKind.u64.wrap (t141)) < 4294967295 then (psalterylaw02_LogsGrow.j0 k a0 a1 a2 a3 (decide ((IntKind.u64.wrap ((IntKind.u64.wrap ((IntKind.u64.wrap (t141)) + 1)) * (IntKind.u64.wrap ((IntKind.u64.wrap (t141)) + 1)))) ≤ a0))) else (psalterylaw02_LogsGrow.j0 k a0 a1 a2 a3 false)))) else (some false)) = some r := H
  have A5 := Aside0.mk A50
  clear A50
  by_cases c6 : t140 = true
  · subst c6
    have H1 : ((logs_Root.f k a0).bind fun t141 => (if (IntKind.u64.wrap ((IntKind.u64.wrap (t141)) * (IntKind.u64.wrap (t141)))) > a0 then (psalterylaw02_LogsGrow.j0 k a0 a1 a2 a3 true) else (if (IntKind.u64.wrap (t141)) < 4294967295 then (psalterylaw02_LogsGrow.j0 k a0 a1 a2 a3 (decide ((IntKind.u64.wrap ((IntKind.u64.wrap ((IntKind.u64.wrap (t141)) + 1)) * (IntKind.u64.wrap ((IntKind.u64.wrap (t141)) + 1)))) ≤ a0))) else (psalterylaw02_LogsGrow.j0 k a0 a1 a2 a3 false)))) = some r := by rw [if_pos rfl] at H; exact H
    clear H
    have H := H1
    clear H1
    replace H := Option.bind_eq_some_iff.mp H
    obtain ⟨t141, A70, H⟩ := H
    replace H : (if (IntKind.u64.wrap ((IntKind.u64.wrap (t141)) * (IntKind.u64.wrap (t141)))) > a0 then (psalterylaw02_LogsGrow.j0 k a0 a1 a2 a3 true) else (if (IntKind.u64.wrap (t141)) < 4294967295 then (psalterylaw02_LogsGrow.j0 k a0 a1 a2 a3 (decide ((IntKind.u64.wrap ((IntKind.u64.wrap ((IntKind.u64.wrap (t141)) + 1)) * (IntKind.u64.wrap ((IntKind.u64.wrap (t141)) + 1)))) ≤ a0))) else (psalterylaw02_LogsGrow.j0 k a0 a1 a2 a3 false))) = some r := H
    have A7 := Aside0.mk A70
    clear A70
    have HC8 := Aside0.mk H
    clear H
    go_enter Try.func7, Try.ntmps7
    go_upto_region 4 with (first | ((with_reducible refine gate_callee (f := 21) rfl ?_); refine goesL_ (some 18) rfl rfl Try.func21 (by kernel_rfl) rfl #[] rfl (by (try simp only [List.map_toArray, List.map_cons, List.map_nil]); first | done | rfl | (simp only [List.length_drop, List.length_take]; rfl)) ?_; (with_reducible refine (psalterylaw02_alive.calls k  true _ A5.out).mono ?_); rintro e w9 ⟨rfl, hb⟩; refine ⟨_, rfl, ?_⟩; have n0_ := Aside0.mk (below_step (by repeat (first | (with_reducible first | exact HB.out | apply below_alloc | apply pw_below_drewN | apply below_drew1) | exact HB.out)) hb); clear HB; have HB := n0_; clear n0_; (try clear hb); (try clear hb2); (try clear hk); (try clear hi)) | ((with_reducible refine gate_callee (f := 24) rfl ?_); refine goesL_ (some 21) rfl rfl Try.func24 (by kernel_rfl) rfl #[.int .u64 a0] rfl (by (try simp only [List.map_toArray, List.map_cons, List.map_nil]); first | done | rfl | (simp only [List.length_drop, List.length_take]; rfl)) ?_; (with_reducible refine (logs_Root.calls k a0 t141 _ A7.out).mono ?_); rintro e w' ⟨rfl, ⟨nd, rfl⟩⟩; refine ⟨_, rfl, ?_⟩))
    (try simp only [Act.put, List.setIfInBounds_toArray, List.set_cons_zero, List.set_cons_succ])
    go_cut [40] (fun v40 wc => ∃ (kq : Nat) (x40_7 : Bool), v40 = .bool x40_7 ∧ Aside0 (psalterylaw02_LogsGrow.j0 kq a0 a1 a2 a3 x40_7 = some r) ∧ Aside0 (kq ≤ k) ∧ Aside0 (Below w.heap.size w wc))
    case first =>
      have H := HC8.out
      clear HC8
      by_cases c10 : (IntKind.u64.wrap ((IntKind.u64.wrap (t141)) * (IntKind.u64.wrap (t141)))) > a0
      · rw [if_pos c10] at H
        have c10b0 : decide (a0 < (IntKind.u64.wrap ((IntKind.u64.wrap (t141)) * (IntKind.u64.wrap (t141))))) = true := decide_eq_true c10
        clear c10
        (first | rw [c10b0] | (simp only [i64_w, i32_w]; rw [c10b0]) | skip)
        have H' := Aside0.mk H
        clear H
        go_wp2
        go_meet
        case rel => exact ⟨_, (true), (by first | rfl | (simp; done) | (simp [*]; done)), H', ⟨by first | omega | exact Nat.le_refl _⟩, ⟨by repeat (first | (with_reducible first | exact HB.out | apply below_alloc | apply pw_below_drewN | apply below_drew1) | exact HB.out)⟩⟩
      · rw [if_neg c10] at H
        have c10b0 : decide (a0 < (IntKind.u64.wrap ((IntKind.u64.wrap (t141)) * (IntKind.u64.wrap (t141))))) = false := decide_eq_false c10
        clear c10
        (first | rw [c10b0] | (simp only [i64_w, i32_w]; rw [c10b0]) | skip)
        by_cases c11 : (IntKind.u64.wrap (t141)) < 4294967295
        · rw [if_pos c11] at H
          have c11b0 : decide ((IntKind.u64.wrap (t141)) < 4294967295) = true := decide_eq_true c11
          clear c11
          have H' := Aside0.mk H
          clear H
          go_wp2
          go_meet
          case rel => exact ⟨_, (decide ((IntKind.u64.wrap ((IntKind.u64.wrap ((IntKind.u64.wrap (t141)) + 1)) * (IntKind.u64.wrap ((IntKind.u64.wrap (t141)) + 1)))) ≤ a0)), (by first | rfl | (simp; done) | (simp [*]; done)), H', ⟨by first | omega | exact Nat.le_refl _⟩, ⟨by repeat (first | (with_reducible first | exact HB.out | apply below_alloc | apply pw_below_drewN | apply below_drew1) | exact HB.out)⟩⟩
        · rw [if_neg c11] at H
          have c11b0 : decide ((IntKind.u64.wrap (t141)) < 4294967295) = false := decide_eq_false c11
          clear c11
          have H' := Aside0.mk H
          clear H
          go_wp2
          go_meet
          case rel => exact ⟨_, (false), (by first | rfl | (simp; done) | (simp [*]; done)), H', ⟨by first | omega | exact Nat.le_refl _⟩, ⟨by repeat (first | (with_reducible first | exact HB.out | apply below_alloc | apply pw_below_drewN | apply below_drew1) | exact HB.out)⟩⟩
    case rest =>
      clear HC8
      try clear c1
      try clear c2
      try clear p2
      try clear c6
      try clear c7
      try clear c10
      try clear c10b0
      try clear c11
      try clear c11b0
      obtain ⟨kq, x40_7, rfl, HA, HJ7, HB⟩ := hcut
      cases kq with
      | zero => exact absurd HA.out (by simp [psalterylaw02_LogsGrow.j0])
      | succ kj7 =>
        have H := HA.out
        clear HA
        simp only [psalterylaw02_LogsGrow.j0] at H
        by_cases c12 : x40_7 = true
        · subst c12
          have H1 : (some false) = some r := by rw [if_pos rfl] at H; exact H
          clear H
          have H := H1
          clear H1
          obtain rfl := Option.some.inj H
          go_wp2
          go_ret
          exact ⟨by first | rfl | (simp [errW_none, errW_some] <;> rfl) | (simp [*, errW_none, errW_some] <;> rfl), by repeat (first | (with_reducible first | exact HB.out | apply below_alloc | apply pw_below_drewN | apply below_drew1) | exact HB.out)⟩
        · replace c12 := Bool.eq_false_iff.mpr c12
          subst c12
          have H1 : ((logs_Log.f kj7 a0).bind fun bt142 => ((logs_Log.f kj7 a1).bind fun bt144 => (if ((bt142.2 == 0) != (decide (a0 > 0))) = true then (psalterylaw02_LogsGrow.j1 kj7 a0 a2 a3 bt142.1 bt142.2 true) else (if bt142.2 = 0 then (if bt144.2 = 0 then (if a0 ≤ a1 then (psalterylaw02_LogsGrow.j1 kj7 a0 a2 a3 bt142.1 bt142.2 (decide (bt142.1 > bt144.1))) else (psalterylaw02_LogsGrow.j1 kj7 a0 a2 a3 bt142.1 bt142.2 false)) else (psalterylaw02_LogsGrow.j1 kj7 a0 a2 a3 bt142.1 bt142.2 false)) else (psalterylaw02_LogsGrow.j1 kj7 a0 a2 a3 bt142.1 bt142.2 false))))) = some r := by rw [if_neg (show ¬ (false = true) by decide)] at H; exact H
          clear H
          have H := H1
          clear H1
          replace H := Option.bind_eq_some_iff.mp H
          obtain ⟨⟨t142, t143⟩, A130, H⟩ := H
          replace H : ((logs_Log.f kj7 a1).bind fun bt144 => (if ((t143 == 0) != (decide (a0 > 0))) = true then (psalterylaw02_LogsGrow.j1 kj7 a0 a2 a3 t142 t143 true) else (if t143 = 0 then (if bt144.2 = 0 then (if a0 ≤ a1 then (psalterylaw02_LogsGrow.j1 kj7 a0 a2 a3 t142 t143 (decide (t142 > bt144.1))) else (psalterylaw02_LogsGrow.j1 kj7 a0 a2 a3 t142 t143 false)) else (psalterylaw02_LogsGrow.j1 kj7 a0 a2 a3 t142 t143 false)) else (psalterylaw02_LogsGrow.j1 kj7 a0 a2 a3 t142 t143 false)))) = some r := H
          have A13 := Aside0.mk A130
          clear A130
          replace H := Option.bind_eq_some_iff.mp H
          obtain ⟨⟨t144, t145⟩, A140, H⟩ := H
          replace H : (if ((t143 == 0) != (decide (a0 > 0))) = true then (psalterylaw02_LogsGrow.j1 kj7 a0 a2 a3 t142 t143 true) else (if t143 = 0 then (if t145 = 0 then (if a0 ≤ a1 then (psalterylaw02_LogsGrow.j1 kj7 a0 a2 a3 t142 t143 (decide (t142 > t144))) else (psalterylaw02_LogsGrow.j1 kj7 a0 a2 a3 t142 t143 false)) else (psalterylaw02_LogsGrow.j1 kj7 a0 a2 a3 t142 t143 false)) else (psalterylaw02_LogsGrow.j1 kj7 a0 a2 a3 t142 t143 false))) = some r := H
          have A14 := Aside0.mk A140
          clear A140
          have HC15 := Aside0.mk H
          clear H
          go_upto_region 8 with (first | ((with_reducible refine gate_callee (f := 22) rfl ?_); refine goesL_ (some 43) rfl rfl Try.func22 (by kernel_rfl) rfl #[.int .u64 a0] rfl (by (try simp only [List.map_toArray, List.map_cons, List.map_nil]); first | done | rfl | (simp only [List.length_drop, List.length_take]; rfl)) ?_; (with_reducible refine (logs_Log.calls kj7 a0 t142 t143 _ A13.out).mono ?_); rintro e w16 ⟨rfl, hb⟩; refine ⟨_, rfl, ?_⟩; have n0_ := Aside0.mk (below_step (by repeat (first | (with_reducible first | exact HB.out | apply below_alloc | apply pw_below_drewN | apply below_drew1) | exact HB.out)) hb); clear HB; have HB := n0_; clear n0_; (try clear hb); (try clear hb2); (try clear hk); (try clear hi)) | ((with_reducible refine gate_callee (f := 22) rfl ?_); refine goesL_ (some 48) rfl rfl Try.func22 (by kernel_rfl) rfl #[.int .u64 a1] rfl (by (try simp only [List.map_toArray, List.map_cons, List.map_nil]); first | done | rfl | (simp only [List.length_drop, List.length_take]; rfl)) ?_; (with_reducible refine (logs_Log.calls kj7 a1 t144 t145 _ A14.out).mono ?_); rintro e w17 ⟨rfl, hb⟩; refine ⟨_, rfl, ?_⟩; have n0_ := Aside0.mk (below_step (by repeat (first | (with_reducible first | exact HB.out | apply below_alloc | apply pw_below_drewN | apply below_drew1) | exact HB.out)) hb); clear HB; have HB := n0_; clear n0_; (try clear hb); (try clear hb2); (try clear hk); (try clear hi)))
          (try simp only [Act.put, List.setIfInBounds_toArray, List.set_cons_zero, List.set_cons_succ])
          go_cut [73] (fun v73 wc => ∃ (kq : Nat) (x73_14 : Bool), v73 = .bool x73_14 ∧ Aside0 (psalterylaw02_LogsGrow.j1 kq a0 a2 a3 t142 t143 x73_14 = some r) ∧ Aside0 (kq ≤ kj7) ∧ Aside0 (Below w.heap.size w wc))
          case first =>
            have H := HC15.out
            clear HC15
            by_cases c18 : ((t143 == 0) != (decide (a0 > 0))) = true
            · rw [if_pos c18] at H
              have c18b0 : ((t143 == 0) != (decide (a0 > 0))) = true := c18
              (try (have c18b1 : decide ((t143 == 0) = (decide (a0 > 0))) = false := by simpa using c18))
              (try (have c18b2 : ((t143 == 0) == (decide (a0 > 0))) = false := by simpa using c18))
              (try (have c18b3 : ¬ ((t143 == 0) = (decide (a0 > 0))) := by simpa using c18))
              clear c18
              (first | rw [c18b0] | (simp only [i64_w, i32_w]; rw [c18b0]) | skip)
              have H' := Aside0.mk H
              clear H
              go_wp2
              go_meet
              case rel => exact ⟨_, (true), (by first | rfl | (simp; done) | (simp [*]; done)), H', ⟨by have := HJ7.out; first | omega | exact Nat.le_refl _⟩, ⟨by repeat (first | (with_reducible first | exact HB.out | apply below_alloc | apply pw_below_drewN | apply below_drew1) | exact HB.out)⟩⟩
            · rw [if_neg c18] at H
              have c18b0 : ((t143 == 0) != (decide (a0 > 0))) = false := by simpa using c18
              (try (have c18b1 : decide ((t143 == 0) = (decide (a0 > 0))) = true := by simpa using c18))
              (try (have c18b2 : ((t143 == 0) == (decide (a0 > 0))) = true := by simpa using c18))
              clear c18
              (first | rw [c18b0] | (simp only [i64_w, i32_w]; rw [c18b0]) | skip)
              by_cases c19 : t143 = 0
              · rw [if_pos c19] at H
                have c19b0 : (t143 == 0) = true := beq_iff_eq.mpr c19
                have c19b1 : (t143 != 0) = false := bne_eq_false_iff_eq.mpr c19
                (try (have c19x : decide (0 < a0) = true := by have h_ := c18b0; rw [c19b0] at h_; simpa using h_))
                clear c19
                by_cases c20 : t145 = 0
                · rw [if_pos c20] at H
                  have c20b0 : (t145 == 0) = true := beq_iff_eq.mpr c20
                  have c20b1 : (t145 != 0) = false := bne_eq_false_iff_eq.mpr c20
                  clear c20
                  by_cases c21 : a0 ≤ a1
                  · rw [if_pos c21] at H
                    have c21b0 : decide (a0 ≤ a1) = true := decide_eq_true c21
                    clear c21
                    have H' := Aside0.mk H
                    clear H
                    go_wp2
                    go_meet
                    case rel => exact ⟨_, (decide (t142 > t144)), (by first | rfl | (simp; done) | (simp [*]; done)), H', ⟨by have := HJ7.out; first | omega | exact Nat.le_refl _⟩, ⟨by repeat (first | (with_reducible first | exact HB.out | apply below_alloc | apply pw_below_drewN | apply below_drew1) | exact HB.out)⟩⟩
                  · rw [if_neg c21] at H
                    have c21b0 : decide (a0 ≤ a1) = false := decide_eq_false c21
                    clear c21
                    have H' := Aside0.mk H
                    clear H
                    go_wp2
                    go_meet
                    case rel => exact ⟨_, (false), (by first | rfl | (simp; done) | (simp [*]; done)), H', ⟨by have := HJ7.out; first | omega | exact Nat.le_refl _⟩, ⟨by repeat (first | (with_reducible first | exact HB.out | apply below_alloc | apply pw_below_drewN | apply below_drew1) | exact HB.out)⟩⟩
                · rw [if_neg c20] at H
                  have c20b0 : (t145 == 0) = false := beq_eq_false_iff_ne.mpr c20
                  have c20b1 : (t145 != 0) = true := bne_iff_ne.mpr c20
                  have H' := Aside0.mk H
                  clear H
                  go_wp2
                  go_meet
                  case rel => exact ⟨_, (false), (by first | rfl | (simp; done) | (simp [*]; done)), H', ⟨by have := HJ7.out; first | omega | exact Nat.le_refl _⟩, ⟨by repeat (first | (with_reducible first | exact HB.out | apply below_alloc | apply pw_below_drewN | apply below_drew1) | exact HB.out)⟩⟩
              · rw [if_neg c19] at H
                have c19b0 : (t143 == 0) = false := beq_eq_false_iff_ne.mpr c19
                have c19b1 : (t143 != 0) = true := bne_iff_ne.mpr c19
                (try (have c19x : decide (0 < a0) = false := by have h_ := c18b0; rw [c19b0] at h_; simpa using h_))
                have H' := Aside0.mk H
                clear H
                go_wp2
                go_meet
                case rel => exact ⟨_, (false), (by first | rfl | (simp; done) | (simp [*]; done)), H', ⟨by have := HJ7.out; first | omega | exact Nat.le_refl _⟩, ⟨by repeat (first | (with_reducible first | exact HB.out | apply below_alloc | apply pw_below_drewN | apply below_drew1) | exact HB.out)⟩⟩
          case rest =>
            clear HC15
            try clear c1
            try clear c2
            try clear p2
            try clear c6
            try clear c7
            try clear c10
            try clear c10b0
            try clear c11
            try clear c11b0
            try clear c12
            try clear c18
            try clear c18b0
            try clear c18b1
            try clear c18b2
            try clear c19
            try clear c19b0
            try clear c19b1
            try clear c20
            try clear c20b0
            try clear c20b1
            try clear c21
            try clear c21b0
            try clear p2
            obtain ⟨kq, x73_14, rfl, HA, HJ14, HB⟩ := hcut
            cases kq with
            | zero => exact absurd HA.out (by simp [psalterylaw02_LogsGrow.j1])
            | succ kj14 =>
              have H := HA.out
              clear HA
              simp only [psalterylaw02_LogsGrow.j1] at H
              by_cases c22 : x73_14 = true
              · subst c22
                have H1 : (some false) = some r := by rw [if_pos rfl] at H; exact H
                clear H
                have H := H1
                clear H1
                obtain rfl := Option.some.inj H
                go_wp2
                go_ret
                exact ⟨by first | rfl | (simp [errW_none, errW_some] <;> rfl) | (simp [*, errW_none, errW_some] <;> rfl), by repeat (first | (with_reducible first | exact HB.out | apply below_alloc | apply pw_below_drewN | apply below_drew1) | exact HB.out)⟩
              · replace c22 := Bool.eq_false_iff.mpr c22
                subst c22
                have H1 : (if t143 = 0 then (if t142 < 0 then (psalterylaw02_LogsGrow.j2 kj14 a2 a3 true) else ((logs_Bits.f kj14 a0).bind fun t146 => (psalterylaw02_LogsGrow.j2 kj14 a2 a3 ((wrap64 (Int.tdiv (wrap64 (t142)) 256)) != (wrap64 (t146 - 1)))))) else (psalterylaw02_LogsGrow.j2 kj14 a2 a3 false)) = some r := by rw [if_neg (show ¬ (false = true) by decide)] at H; exact H
                clear H
                have H := H1
                clear H1
                have HC23 := Aside0.mk H
                clear H
                go_upto_region 10 with (fail)
                go_cut [88] (fun v88 wc => ∃ (kq : Nat) (x88_22 : Bool), v88 = .bool x88_22 ∧ Aside0 (psalterylaw02_LogsGrow.j2 kq a2 a3 x88_22 = some r) ∧ Aside0 (kq ≤ kj14) ∧ Aside0 (Below w.heap.size w wc))
                case first =>
                  have H := HC23.out
                  clear HC23
                  by_cases c24 : t143 = 0
                  · rw [if_pos c24] at H
                    have c24b0 : (t143 == 0) = true := beq_iff_eq.mpr c24
                    have c24b1 : (t143 != 0) = false := bne_eq_false_iff_eq.mpr c24
                    (try (have c24x : decide (0 < a0) = true := by have h_ := c18b0; rw [c24b0] at h_; simpa using h_))
                    clear c24
                    (first | rw [c24b0] | (simp only [i64_w, i32_w]; rw [c24b0]) | skip)
                    by_cases c25 : t142 < 0
                    · rw [if_pos c25] at H
                      have c25b0 : decide (t142 < 0) = true := decide_eq_true c25
                      clear c25
                      have H' := Aside0.mk H
                      clear H
                      go_wp2
                      go_meet
                      case rel => exact ⟨_, (true), (by first | rfl | (simp; done) | (simp [*]; done)), H', ⟨by have := HJ7.out; have := HJ14.out; first | omega | exact Nat.le_refl _⟩, ⟨by repeat (first | (with_reducible first | exact HB.out | apply below_alloc | apply pw_below_drewN | apply below_drew1) | exact HB.out)⟩⟩
                    · rw [if_neg c25] at H
                      have c25b0 : decide (t142 < 0) = false := decide_eq_false c25
                      clear c25
                      replace H := Option.bind_eq_some_iff.mp H
                      obtain ⟨t146, A260, H⟩ := H
                      replace H : (psalterylaw02_LogsGrow.j2 kj14 a2 a3 ((wrap64 (Int.tdiv (wrap64 (t142)) 256)) != (wrap64 (t146 - 1)))) = some r := H
                      have A26 := Aside0.mk A260
                      clear A260
                      have H' := Aside0.mk H
                      clear H
                      go_wp2_with (first | (go_at_call 26; (with_reducible refine (logs_Bits.calls kj14 a0 t146 _ A26.out).mono ?_); rintro e w' ⟨rfl, ⟨nd, rfl⟩⟩))
                      go_meet
                      case rel => exact ⟨_, (((wrap64 (Int.tdiv (wrap64 (t142)) 256)) != (wrap64 (t146 - 1)))), (by first | rfl | (simp; done) | (simp [*]; done)), H', ⟨by have := HJ7.out; have := HJ14.out; first | omega | exact Nat.le_refl _⟩, ⟨by repeat (first | (with_reducible first | exact HB.out | apply below_alloc | apply pw_below_drewN | apply below_drew1) | exact HB.out)⟩⟩
                  · rw [if_neg c24] at H
                    have c24b0 : (t143 == 0) = false := beq_eq_false_iff_ne.mpr c24
                    have c24b1 : (t143 != 0) = true := bne_iff_ne.mpr c24
                    (try (have c24x : decide (0 < a0) = false := by have h_ := c18b0; rw [c24b0] at h_; simpa using h_))
                    (first | rw [c24b0] | (simp only [i64_w, i32_w]; rw [c24b0]) | skip)
                    have H' := Aside0.mk H
                    clear H
                    go_wp2
                    go_meet
                    case rel => exact ⟨_, (false), (by first | rfl | (simp; done) | (simp [*]; done)), H', ⟨by have := HJ7.out; have := HJ14.out; first | omega | exact Nat.le_refl _⟩, ⟨by repeat (first | (with_reducible first | exact HB.out | apply below_alloc | apply pw_below_drewN | apply below_drew1) | exact HB.out)⟩⟩
                case rest =>
                  clear HC23
                  try clear c1
                  try clear c2
                  try clear p2
                  try clear c6
                  try clear p6
                  try clear c7
                  try clear c10
                  try clear c10b0
                  try clear c11
                  try clear c11b0
                  try clear c12
                  try clear c18
                  try clear c18b0
                  try clear c18b1
                  try clear c18b2
                  try clear c19
                  try clear c19b0
                  try clear c19b1
                  try clear c20
                  try clear c20b0
                  try clear c20b1
                  try clear c21
                  try clear c21b0
                  try clear c22
                  try clear c24
                  try clear c24b0
                  try clear c24b1
                  try clear c25
                  try clear c25b0
                  try clear p2
                  obtain ⟨kq, x88_22, rfl, HA, HJ22, HB⟩ := hcut
                  cases kq with
                  | zero => exact absurd HA.out (by simp [psalterylaw02_LogsGrow.j2])
                  | succ kj22 =>
                    have H := HA.out
                    clear HA
                    simp only [psalterylaw02_LogsGrow.j2] at H
                    by_cases c27 : x88_22 = true
                    · subst c27
                      have H1 : (some false) = some r := by rw [if_pos rfl] at H; exact H
                      clear H
                      have H := H1
                      clear H1
                      obtain rfl := Option.some.inj H
                      go_wp2
                      go_ret
                      exact ⟨by first | rfl | (simp [errW_none, errW_some] <;> rfl) | (simp [*, errW_none, errW_some] <;> rfl), by repeat (first | (with_reducible first | exact HB.out | apply below_alloc | apply pw_below_drewN | apply below_drew1) | exact HB.out)⟩
                    · replace c27 := Bool.eq_false_iff.mpr c27
                      subst c27
                      have H1 : ((logs_Exp.f kj22 a2).bind fun bt147 => ((logs_Exp.f kj22 a3).bind fun bt149 => (if bt147.2 = 0 then (if bt149.2 = 0 then (if a2 > a3 then (some true) else (some (decide (bt147.1 ≤ bt149.1)))) else (some true)) else (some true)))) = some r := by rw [if_neg (show ¬ (false = true) by decide)] at H; exact H
                      clear H
                      have H := H1
                      clear H1
                      replace H := Option.bind_eq_some_iff.mp H
                      obtain ⟨⟨t147, t148⟩, A280, H⟩ := H
                      replace H : ((logs_Exp.f kj22 a3).bind fun bt149 => (if t148 = 0 then (if bt149.2 = 0 then (if a2 > a3 then (some true) else (some (decide (t147 ≤ bt149.1)))) else (some true)) else (some true))) = some r := H
                      have A28 := Aside0.mk A280
                      clear A280
                      replace H := Option.bind_eq_some_iff.mp H
                      obtain ⟨⟨t149, t150⟩, A290, H⟩ := H
                      replace H : (if t148 = 0 then (if t150 = 0 then (if a2 > a3 then (some true) else (some (decide (t147 ≤ t149)))) else (some true)) else (some true)) = some r := H
                      have A29 := Aside0.mk A290
                      clear A290
                      by_cases c30 : t148 = 0
                      · rw [if_pos c30] at H
                        have c30b0 : (t148 == 0) = true := beq_iff_eq.mpr c30
                        have c30b1 : (t148 != 0) = false := bne_eq_false_iff_eq.mpr c30
                        clear c30
                        by_cases c31 : t150 = 0
                        · rw [if_pos c31] at H
                          have c31b0 : (t150 == 0) = true := beq_iff_eq.mpr c31
                          have c31b1 : (t150 != 0) = false := bne_eq_false_iff_eq.mpr c31
                          clear c31
                          by_cases c32 : a2 > a3
                          · rw [if_pos c32] at H
                            have c32b0 : decide (a3 < a2) = true := decide_eq_true c32
                            clear c32
                            obtain rfl := Option.some.inj H
                            go_wp2_with (first | ((with_reducible refine gate_callee (f := 28) rfl ?_); refine goesL_ (some 91) rfl rfl Try.func28 (by kernel_rfl) rfl #[.int .i32 a2] rfl (by (try simp only [List.map_toArray, List.map_cons, List.map_nil]); first | done | rfl | (simp only [List.length_drop, List.length_take]; rfl)) ?_; (with_reducible refine (logs_Exp.calls kj22 a2 t147 t148 _ A28.out).mono ?_); rintro e w' ⟨rfl, ⟨nd, rfl⟩⟩; refine ⟨_, rfl, ?_⟩) | ((with_reducible refine gate_callee (f := 28) rfl ?_); refine goesL_ (some 96) rfl rfl Try.func28 (by kernel_rfl) rfl #[.int .i32 a3] rfl (by (try simp only [List.map_toArray, List.map_cons, List.map_nil]); first | done | rfl | (simp only [List.length_drop, List.length_take]; rfl)) ?_; (with_reducible refine (logs_Exp.calls kj22 a3 t149 t150 _ A29.out).mono ?_); rintro e w' ⟨rfl, ⟨nd, rfl⟩⟩; refine ⟨_, rfl, ?_⟩))
                            go_ret
                            exact ⟨by first | rfl | (simp [errW_none, errW_some] <;> rfl) | (simp [*, errW_none, errW_some] <;> rfl), by repeat (first | (with_reducible first | exact HB.out | apply below_alloc | apply pw_below_drewN | apply below_drew1) | exact HB.out)⟩
                          · rw [if_neg c32] at H
                            have c32b0 : decide (a3 < a2) = false := decide_eq_false c32
                            clear c32
                            obtain rfl := Option.some.inj H
                            go_wp2_with (first | ((with_reducible refine gate_callee (f := 28) rfl ?_); refine goesL_ (some 91) rfl rfl Try.func28 (by kernel_rfl) rfl #[.int .i32 a2] rfl (by (try simp only [List.map_toArray, List.map_cons, List.map_nil]); first | done | rfl | (simp only [List.length_drop, List.length_take]; rfl)) ?_; (with_reducible refine (logs_Exp.calls kj22 a2 t147 t148 _ A28.out).mono ?_); rintro e w' ⟨rfl, ⟨nd, rfl⟩⟩; refine ⟨_, rfl, ?_⟩) | ((with_reducible refine gate_callee (f := 28) rfl ?_); refine goesL_ (some 96) rfl rfl Try.func28 (by kernel_rfl) rfl #[.int .i32 a3] rfl (by (try simp only [List.map_toArray, List.map_cons, List.map_nil]); first | done | rfl | (simp only [List.length_drop, List.length_take]; rfl)) ?_; (with_reducible refine (logs_Exp.calls kj22 a3 t149 t150 _ A29.out).mono ?_); rintro e w' ⟨rfl, ⟨nd, rfl⟩⟩; refine ⟨_, rfl, ?_⟩))
                            go_ret
                            exact ⟨by first | rfl | (simp [errW_none, errW_some] <;> rfl) | (simp [*, errW_none, errW_some] <;> rfl), by repeat (first | (with_reducible first | exact HB.out | apply below_alloc | apply pw_below_drewN | apply below_drew1) | exact HB.out)⟩
                        · rw [if_neg c31] at H
                          have c31b0 : (t150 == 0) = false := beq_eq_false_iff_ne.mpr c31
                          have c31b1 : (t150 != 0) = true := bne_iff_ne.mpr c31
                          obtain rfl := Option.some.inj H
                          go_wp2_with (first | ((with_reducible refine gate_callee (f := 28) rfl ?_); refine goesL_ (some 91) rfl rfl Try.func28 (by kernel_rfl) rfl #[.int .i32 a2] rfl (by (try simp only [List.map_toArray, List.map_cons, List.map_nil]); first | done | rfl | (simp only [List.length_drop, List.length_take]; rfl)) ?_; (with_reducible refine (logs_Exp.calls kj22 a2 t147 t148 _ A28.out).mono ?_); rintro e w' ⟨rfl, ⟨nd, rfl⟩⟩; refine ⟨_, rfl, ?_⟩) | ((with_reducible refine gate_callee (f := 28) rfl ?_); refine goesL_ (some 96) rfl rfl Try.func28 (by kernel_rfl) rfl #[.int .i32 a3] rfl (by (try simp only [List.map_toArray, List.map_cons, List.map_nil]); first | done | rfl | (simp only [List.length_drop, List.length_take]; rfl)) ?_; (with_reducible refine (logs_Exp.calls kj22 a3 t149 t150 _ A29.out).mono ?_); rintro e w' ⟨rfl, ⟨nd, rfl⟩⟩; refine ⟨_, rfl, ?_⟩))
                          go_ret
                          exact ⟨by first | rfl | (simp [errW_none, errW_some] <;> rfl) | (simp [*, errW_none, errW_some] <;> rfl), by repeat (first | (with_reducible first | exact HB.out | apply below_alloc | apply pw_below_drewN | apply below_drew1) | exact HB.out)⟩
                      · rw [if_neg c30] at H
                        have c30b0 : (t148 == 0) = false := beq_eq_false_iff_ne.mpr c30
                        have c30b1 : (t148 != 0) = true := bne_iff_ne.mpr c30
                        obtain rfl := Option.some.inj H
                        go_wp2_with (first | ((with_reducible refine gate_callee (f := 28) rfl ?_); refine goesL_ (some 91) rfl rfl Try.func28 (by kernel_rfl) rfl #[.int .i32 a2] rfl (by (try simp only [List.map_toArray, List.map_cons, List.map_nil]); first | done | rfl | (simp only [List.length_drop, List.length_take]; rfl)) ?_; (with_reducible refine (logs_Exp.calls kj22 a2 t147 t148 _ A28.out).mono ?_); rintro e w' ⟨rfl, ⟨nd, rfl⟩⟩; refine ⟨_, rfl, ?_⟩) | ((with_reducible refine gate_callee (f := 28) rfl ?_); refine goesL_ (some 96) rfl rfl Try.func28 (by kernel_rfl) rfl #[.int .i32 a3] rfl (by (try simp only [List.map_toArray, List.map_cons, List.map_nil]); first | done | rfl | (simp only [List.length_drop, List.length_take]; rfl)) ?_; (with_reducible refine (logs_Exp.calls kj22 a3 t149 t150 _ A29.out).mono ?_); rintro e w' ⟨rfl, ⟨nd, rfl⟩⟩; refine ⟨_, rfl, ?_⟩))
                        go_ret
                        exact ⟨by first | rfl | (simp [errW_none, errW_some] <;> rfl) | (simp [*, errW_none, errW_some] <;> rfl), by repeat (first | (with_reducible first | exact HB.out | apply below_alloc | apply pw_below_drewN | apply below_drew1) | exact HB.out)⟩
  · replace c6 := Bool.eq_false_iff.mpr c6
    subst c6
    have H1 : (some false) = some r := by rw [if_neg (show ¬ (false = true) by decide)] at H; exact H
    clear H
    have H := H1
    clear H1
    obtain rfl := Option.some.inj H
    go_enter Try.func7, Try.ntmps7
    go_wp2_with (first | ((with_reducible refine gate_callee (f := 21) rfl ?_); refine goesL_ (some 18) rfl rfl Try.func21 (by kernel_rfl) rfl #[] rfl (by (try simp only [List.map_toArray, List.map_cons, List.map_nil]); first | done | rfl | (simp only [List.length_drop, List.length_take]; rfl)) ?_; (with_reducible refine (psalterylaw02_alive.calls k  false _ A5.out).mono ?_); rintro e w33 ⟨rfl, hb⟩; refine ⟨_, rfl, ?_⟩; have n0_ := Aside0.mk (below_step (by repeat (first | (with_reducible first | exact HB.out | apply below_alloc | apply pw_below_drewN | apply below_drew1) | exact HB.out)) hb); clear HB; have HB := n0_; clear n0_; (try clear hb); (try clear hb2); (try clear hk); (try clear hi)))
    go_ret
    exact ⟨by first | rfl | (simp [errW_none, errW_some] <;> rfl) | (simp [*, errW_none, errW_some] <;> rfl), by repeat (first | (with_reducible first | exact HB.out | apply below_alloc | apply pw_below_drewN | apply below_drew1) | exact HB.out)⟩

/-- THE ONE PURE STATEMENT of psalterylaw02_LogsGrow: yours. -/
def psalterylaw02_LogsGrow.Pure : Prop := ∀ (a0 : Int) (a1 : Int) (a2 : Int) (a3 : Int), (Lit.int .u64 a0).wf = true → (Lit.int .u64 a1).wf = true → (Lit.int .i32 a2).wf = true → (Lit.int .i32 a3).wf = true → ∃ k, psalterylaw02_LogsGrow.f k a0 a1 a2 a3 = some true
theorem psalterylaw02_LogsGrow.walk (P : psalterylaw02_LogsGrow.Pure) (a0 : Int) (a1 : Int) (a2 : Int) (a3 : Int) (w : World) (w0 : (Lit.int .u64 a0).wf = true) (w1 : (Lit.int .u64 a1).wf = true) (w2 : (Lit.int .i32 a2).wf = true) (w3 : (Lit.int .i32 a3).wf = true) :
    Calls Try.prog 7 #[.int .u64 a0, .int .u64 a1, .int .i32 a2, .int .i32 a3] w fun e w' => e = .returned (.bool true) ∧ Below w.heap.size w w' := by
  obtain ⟨k, h⟩ := P a0 a1 a2 a3 w0 w1 w2 w3
  refine (psalterylaw02_LogsGrow.calls k a0 a1 a2 a3 true w h).mono ?_
  rintro e w' ⟨rfl, hd⟩
  exact ⟨rfl, hd⟩

end Go.Proofs.Ytfipchhpnnjkeaa.PLogs
