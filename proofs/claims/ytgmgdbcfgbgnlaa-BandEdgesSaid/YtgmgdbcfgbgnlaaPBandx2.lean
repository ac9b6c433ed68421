/- Contracts of the functions that the law Band reaches: each Go function as a Lean function, and that the Go text comes to it. Written by programs (wip/tools), out of the program's own loaded form. -/
import Derived.Test.YtgmgdbcfgbgnlaaPBandx0
import Derived.Test.YtgmgdbcfgbgnlaaPBandx1
import Derived.WalkSpells
import Derived.StillTailTactics
import Derived.Lib.SliceRun
namespace Go.Proofs.Ytgmgdbcfgbgnlaa.PBand
open Go.RowKit Go.Proofs.YtgmgdbcfgbgnlaaW.PrintWords Go.Proofs.YtgmgdbcfgbgnlaaW.PrintLast Go.Proofs.YtgmgdbcfgbgnlaaW.PrintMore
attribute [local go_sem] max2_int min2_int max_two min_two max_three min_three max_four min_four   -- for this text's walks alone
set_option linter.unusedVariables false
set_option linter.unusedSimpArgs false

/-! ### psalterylaw15_BandEdges: function 8 -/
mutual
def psalterylaw15_BandEdges.j0 : Nat → Int → Int → List Int → Int → Int → Bool → Option (Bool)
  | 0, _, _, _, _, _, _ => none
  | k + 1, x0, x1, x5, x7, x8, x47 => if x47 = true then (some false) else (psalterylaw15_BandEdges.l0 k x0 x1 x5 x7 x8 0)
def psalterylaw15_BandEdges.l0 : Nat → Int → Int → List Int → Int → Int → Int → Option (Bool)
  | 0, _, _, _, _, _, _ => none
  | k + 1, x0, x1, x5, x7, x8, x9 => if x9 < 9 then (if 0 ≤ x9 then (if x9 < (x5.length : Int) then ((psalteryref15_Edge.f x0 x9).bind fun t155 => (if (rd x5 x9) = t155 then (psalterylaw15_BandEdges.l0 k x0 x1 x5 x7 x8 (wrap64 (x9 + 1))) else (some false))) else (none)) else (none)) else (if x1 < 0 then (if x7 = 0 then (some (x8 == 1)) else (some false)) else (if x1 > 3 then (if x7 = 0 then (some (x8 == 1)) else (some false)) else (if x8 = 0 then ((psalteryref15_Edge.f x0 (wrap64 ((wrap64 (2 * x1)) + 2))).bind fun t156 => (some (x7 == t156))) else (some false))))
end
def psalterylaw15_BandEdges.f (k : Nat) (a0 : Int) (a1 : Int) : Option (Bool) := (psalterylaw15_alive.f k).bind fun t146 => (if t146 = true then ((band_Edges.f a0).bind fun bt147 => ((band_Kept.f a0 a1).bind fun bt151 => ((psalteryref09_May.f a0).bind fun t153 => (if t153 = true then (if bt147.2 = 0 then (psalterylaw15_BandEdges.j0 k a0 a1 bt147.1 bt151.1 bt151.2 ((bt147.1.length : Int) != 9)) else (psalterylaw15_BandEdges.j0 k a0 a1 bt147.1 bt151.1 bt151.2 true)) else (if (bt147.1.length : Int) = 0 then (if bt147.2 = 1 then (if bt151.1 = 0 then (some (bt151.2 == 1)) else (some false)) else (some false)) else (some false)))))) else (some false))
theorem psalterylaw15_BandEdges.mono_l : ∀ k, (∀ y0 y1 y2 y3 y4 y5, LeO (psalterylaw15_BandEdges.j0 k y0 y1 y2 y3 y4 y5) (psalterylaw15_BandEdges.j0 (k + 1) y0 y1 y2 y3 y4 y5)) ∧ (∀ y0 y1 y2 y3 y4 y5, LeO (psalterylaw15_BandEdges.l0 k y0 y1 y2 y3 y4 y5) (psalterylaw15_BandEdges.l0 (k + 1) y0 y1 y2 y3 y4 y5))
  | 0 => ⟨fun _ _ _ _ _ _ r h => by simp [psalterylaw15_BandEdges.j0] at h, fun _ _ _ _ _ _ r h => by simp [psalterylaw15_BandEdges.l0] at h⟩
  | k + 1 => by
    obtain ⟨ih0, ih1⟩ := psalterylaw15_BandEdges.mono_l k
    refine ⟨?_, ?_⟩
    · intro y0 y1 y2 y3 y4 y5
      unfold psalterylaw15_BandEdges.j0
      repeat' first
      | (with_reducible exact ih0 _ _ _ _ _ _)
      | (with_reducible exact ih1 _ _ _ _ _ _)
      | (with_reducible exact psalterylaw15_alive.mono _)
      | (with_reducible exact LeO.refl _)
      | (with_reducible exact LeO.none _)
      | (with_reducible refine LeO.ite ?_ ?_)
      | (with_reducible refine LeO.bind ?_ (fun _ => ?_))
      | exact ih0 _ _ _ _ _ _
      | exact ih1 _ _ _ _ _ _
      | exact psalterylaw15_alive.mono _
      | exact LeO.none _
      | refine LeO.ite ?_ ?_
      | refine LeO.bind ?_ (fun _ => ?_)
    · intro y0 y1 y2 y3 y4 y5
      unfold psalterylaw15_BandEdges.l0
      repeat' first
      | (with_reducible exact ih0 _ _ _ _ _ _)
      | (with_reducible exact ih1 _ _ _ _ _ _)
      | (with_reducible exact psalterylaw15_alive.mono _)
      | (with_reducible exact LeO.refl _)
      | (with_reducible exact LeO.none _)
      | (with_reducible refine LeO.ite ?_ ?_)
      | (with_reducible refine LeO.bind ?_ (fun _ => ?_))
      | exact ih0 _ _ _ _ _ _
      | exact ih1 _ _ _ _ _ _
      | exact psalterylaw15_alive.mono _
      | exact LeO.none _
      | refine LeO.ite ?_ ?_
      | refine LeO.bind ?_ (fun _ => ?_)
theorem psalterylaw15_BandEdges.mono : ∀ a0 a1 k, LeO (psalterylaw15_BandEdges.f k a0 a1) (psalterylaw15_BandEdges.f (k + 1) a0 a1) := by
  intro a0 a1 k
  obtain ⟨ih0, ih1⟩ := psalterylaw15_BandEdges.mono_l k
  unfold psalterylaw15_BandEdges.f
  repeat' first
      | (with_reducible exact ih0 _ _ _ _ _ _)
      | (with_reducible exact ih1 _ _ _ _ _ _)
      | (with_reducible exact psalterylaw15_alive.mono _)
      | (with_reducible exact LeO.refl _)
      | (with_reducible exact LeO.none _)
      | (with_reducible refine LeO.ite ?_ ?_)
      | (with_reducible refine LeO.bind ?_ (fun _ => ?_))
      | exact ih0 _ _ _ _ _ _
      | exact ih1 _ _ _ _ _ _
      | exact psalterylaw15_alive.mono _
      | exact LeO.none _
      | refine LeO.ite ?_ ?_
      | refine LeO.bind ?_ (fun _ => ?_)
def psalterylaw15_BandEdges.T12 : Bool × List (List Nat × List Nat) := (true, [([], []), ([], []), ([0, 1], [0, 1]), ([2], [2]), ([], []), ([], []), ([4, 5], [4, 5]), ([3, 6], [3, 6])])
def psalterylaw15_BandEdges.B12 : List Nat := [0, 0, 3, 7, 0, 0, 48, 127]
theorem psalterylaw15_BandEdges.tab12 : rtab .any (opsOf Try.f8 12) = psalterylaw15_BandEdges.T12 := by kernel_rfl
theorem psalterylaw15_BandEdges.bits12 : waitsOk psalterylaw15_BandEdges.T12.2 psalterylaw15_BandEdges.B12 = true := by kernel_rfl
set_option maxHeartbeats 8000000 in
set_option maxRecDepth 100000 in
theorem psalterylaw15_BandEdges.calls (k : Nat) (a0 : Int) (a1 : Int) (r : Bool) (w : World) (h : psalterylaw15_BandEdges.f k a0 a1 = some r) :
    Calls Try.prog 8 #[.int .i64 a0, .int .i64 a1] w fun e w' => e = .returned (.bool r) ∧ Below w.heap.size w w' := by
  have HB := Aside0.mk (Below.refl w.heap.size w)
  have H : ((psalterylaw15_alive.f k).bind fun t146 => (if t146 = true then ((band_Edges.f a0).bind fun bt147 => ((band_Kept.f a0 a1).bind fun bt151 => ((psalteryref09_May.f a0).bind fun t153 => (if t153 = true then (if bt147.2 = 0 then (psalterylaw15_BandEdges.j0 k a0 a1 bt147.1 bt151.1 bt151.2 ((bt147.1.length : Int) != 9)) else (psalterylaw15_BandEdges.j0 k a0 a1 bt147.1 bt151.1 bt151.2 true)) else (if (bt147.1.length : Int) = 0 then (if bt147.2 = 1 then (if bt151.1 = 0 then (some (bt151.2 == 1)) else (some false)) else (some false)) else (some false)))))) else (some false))) = some r := h
  clear h
  replace H := Option.bind_eq_some_iff.mp H
  obtain ⟨t146, A30, H⟩ := H
  replace H : (if t146 = true then ((band_Edges.f a0).bind fun bt147 => ((band_Kept.f a0 a1).bind fun bt151 => ((psalteryref09_May.f a0).bind fun t153 => (if t153 = true then (if bt147.2 = 0 then (psalterylaw15_BandEdges.j0 k a0 a1 bt147.1 bt151.1 bt151.2 ((bt147.1.length : Int) != 9)) else (psalterylaw15_BandEdges.j0 k a0 a1 bt147.1 bt151.1 bt151.2 true)) else (if (bt147.1.length : Int) = 0 then (if bt147.2 = 1 then (if bt151.1 = 0 then (some (bt151.2 == 1)) else (some false)) else (some false)) else (some false)))))) else (some false)) = some r := H
  have A3 := Aside0.mk A30
  clear A30
  by_cases c4 : t146 = true
  · subst c4
    have H1 : ((band_Edges.f a0).bind fun bt147 => ((band_Kept.f a0 a1).bind fun bt151 => ((psalteryref09_May.f a0).bind fun t153 => (if t153 = true then (if bt147.2 = 0 then (psalterylaw15_BandEdges.j0 k a0 a1 bt147.1 bt151.1 bt151.2 ((bt147.1.length : Int) != 9)) else (psalterylaw15_BandEdges.j0 k a0 a1 bt147.1 bt151.1 bt151.2 true)) else (if (bt147.1.length : Int) = 0 then (if bt147.2 = 1 then (if bt151.1 = 0 then (some (bt151.2 == 1)) else (some false)) else (some false)) else (some false)))))) = some r := by rw [if_pos rfl] at H; exact H
    clear H
    have H := H1
    clear H1
    replace H := Option.bind_eq_some_iff.mp H
    obtain ⟨⟨t147, t148⟩, A50, H⟩ := H
    replace H : ((band_Kept.f a0 a1).bind fun bt151 => ((psalteryref09_May.f a0).bind fun t153 => (if t153 = true then (if t148 = 0 then (psalterylaw15_BandEdges.j0 k a0 a1 t147 bt151.1 bt151.2 ((t147.length : Int) != 9)) else (psalterylaw15_BandEdges.j0 k a0 a1 t147 bt151.1 bt151.2 true)) else (if (t147.length : Int) = 0 then (if t148 = 1 then (if bt151.1 = 0 then (some (bt151.2 == 1)) else (some false)) else (some false)) else (some false))))) = some r := H
    have A5 := Aside0.mk A50
    clear A50
    replace H := Option.bind_eq_some_iff.mp H
    obtain ⟨⟨t151, t152⟩, A60, H⟩ := H
    replace H : ((psalteryref09_May.f a0).bind fun t153 => (if t153 = true then (if t148 = 0 then (psalterylaw15_BandEdges.j0 k a0 a1 t147 t151 t152 ((t147.length : Int) != 9)) else (psalterylaw15_BandEdges.j0 k a0 a1 t147 t151 t152 true)) else (if (t147.length : Int) = 0 then (if t148 = 1 then (if t151 = 0 then (some (t152 == 1)) else (some false)) else (some false)) else (some false)))) = some r := H
    have A6 := Aside0.mk A60
    clear A60
    replace H := Option.bind_eq_some_iff.mp H
    obtain ⟨t153, A70, H⟩ := H
    replace H : (if t153 = true then (if t148 = 0 then (psalterylaw15_BandEdges.j0 k a0 a1 t147 t151 t152 ((t147.length : Int) != 9)) else (psalterylaw15_BandEdges.j0 k a0 a1 t147 t151 t152 true)) else (if (t147.length : Int) = 0 then (if t148 = 1 then (if t151 = 0 then (some (t152 == 1)) else (some false)) else (some false)) else (some false))) = some r := H
    have A7 := Aside0.mk A70
    clear A70
    by_cases c8 : t153 = true
    · subst c8
      have H1 : (if t148 = 0 then (psalterylaw15_BandEdges.j0 k a0 a1 t147 t151 t152 ((t147.length : Int) != 9)) else (psalterylaw15_BandEdges.j0 k a0 a1 t147 t151 t152 true)) = some r := by rw [if_pos rfl] at H; exact H
      clear H
      have H := H1
      clear H1
      have HC9 := Aside0.mk H
      clear H
      go_enter Try.func8, Try.ntmps8
      go_upto_region 7 with (first | ((with_reducible refine gate_callee (f := 30) rfl ?_); refine goesL_ (some 10) rfl rfl Try.func30 (by kernel_rfl) rfl #[] rfl (by (try simp only [List.map_toArray, List.map_cons, List.map_nil]); first | done | rfl | (simp only [List.length_drop, List.length_take]; rfl)) ?_; (with_reducible refine (psalterylaw15_alive.calls k  true _ A3.out).mono ?_); rintro e w10 ⟨rfl, hb⟩; refine ⟨_, rfl, ?_⟩; have n0_ := Aside0.mk (below_step (by repeat (first | (with_reducible first | exact HB.out | apply below_alloc | apply pw_below_drewN | apply below_drew1) | exact HB.out)) hb); clear HB; have HB := n0_; clear n0_; (try clear hb); (try clear hb2); (try clear hk); (try clear hi)) | ((with_reducible refine gate_callee (f := 31) rfl ?_); refine goesL_ (some 14) rfl rfl Try.func31 (by kernel_rfl) rfl #[.int .i64 a0] rfl (by (try simp only [List.map_toArray, List.map_cons, List.map_nil]); first | done | rfl | (simp only [List.length_drop, List.length_take]; rfl)) ?_; (with_reducible refine (band_Edges.calls a0 t147 t148 _ A5.out).mono ?_); rintro e w11 ⟨v149, rfl, ho0, hb⟩; refine ⟨_, rfl, ?_⟩; have n0_ := Aside0.mk (Kd.R_lower ho0 (below_size (by repeat (first | (with_reducible first | exact HB.out | apply below_alloc | apply pw_below_drewN | apply below_drew1) | exact HB.out)))); have n1_ := Aside0.mk (below_step (by repeat (first | (with_reducible first | exact HB.out | apply below_alloc | apply pw_below_drewN | apply below_drew1) | exact HB.out)) hb); clear HB; have HO150 := n0_; have HB := n1_; clear n0_ n1_; (try clear hb); (try clear hb2); (try clear hk); (try clear hi); (try clear ho0)) | ((with_reducible refine gate_callee (f := 32) rfl ?_); refine goesL_ (some 20) rfl rfl Try.func32 (by kernel_rfl) rfl #[.int .i64 a0, .int .i64 a1] rfl (by (try simp only [List.map_toArray, List.map_cons, List.map_nil]); first | done | rfl | (simp only [List.length_drop, List.length_take]; rfl)) ?_; (with_reducible refine (band_Kept.calls a0 a1 t151 t152 _ A6.out).mono ?_); rintro e w12 ⟨rfl, hb⟩; refine ⟨_, rfl, ?_⟩; have n0_ := Aside0.mk (Kd.R_below (by (with_reducible repeat (first | apply Kd.R_alloc | apply Kd.R_drewN | apply Kd.R_drew)); exact HO150.out) hb); have n1_ := Aside0.mk (below_step (by repeat (first | (with_reducible first | exact HB.out | apply below_alloc | apply pw_below_drewN | apply below_drew1) | exact HB.out)) hb); clear HO150; clear HB; have HO150 := n0_; have HB := n1_; clear n0_ n1_; (try clear hb); (try clear hb2); (try clear hk); (try clear hi)) | ((with_reducible refine gate_callee (f := 33) rfl ?_); refine goesL_ (some 24) rfl rfl Try.func33 (by kernel_rfl) rfl #[.int .i64 a0] rfl (by (try simp only [List.map_toArray, List.map_cons, List.map_nil]); first | done | rfl | (simp only [List.length_drop, List.length_take]; rfl)) ?_; (with_reducible refine (psalteryref09_May.calls a0 true _ A7.out).mono ?_); rintro e w' ⟨rfl, ⟨nd, rfl⟩⟩; refine ⟨_, rfl, ?_⟩))
      (try simp only [Act.put, List.setIfInBounds_toArray, List.set_cons_zero, List.set_cons_succ])
      go_cut [47] (fun v47 wc => ∃ (kq : Nat) (x47_8 : Bool), v47 = .bool x47_8 ∧ Aside0 (psalterylaw15_BandEdges.j0 kq a0 a1 t147 t151 t152 x47_8 = some r) ∧ Aside0 (kq ≤ k) ∧ Aside0 (Kd.R (Kd.int .i64) 85 wc w.heap.size (fun _ => True) v149 t147) ∧ Aside0 (Below w.heap.size w wc))
      case first =>
        have H := HC9.out
        clear HC9
        by_cases c13 : t148 = 0
        · rw [if_pos c13] at H
          have c13b0 : (t148 == 0) = true := beq_iff_eq.mpr c13
          have c13b1 : (t148 != 0) = false := bne_eq_false_iff_eq.mpr c13
          clear c13
          (first | rw [c13b0] | (simp only [i64_w, i32_w]; rw [c13b0]) | skip)
          have H' := Aside0.mk H
          clear H
          obtain ⟨Ao14, co14, eo14⟩ := Kd.R_slice HO150.out
          subst eo14
          go_wp2
          go_meet
          case rel => exact ⟨_, (((t147.length : Int) != 9)), (by first | rfl | (simp; done) | (simp [*]; done)), H', ⟨by first | omega | exact Nat.le_refl _⟩, ⟨by (with_reducible repeat (first | apply Kd.R_alloc | apply Kd.R_drewN | apply Kd.R_drew)); exact HO150.out⟩, ⟨by repeat (first | (with_reducible first | exact HB.out | apply below_alloc | apply pw_below_drewN | apply below_drew1) | exact HB.out)⟩⟩
        · rw [if_neg c13] at H
          have c13b0 : (t148 == 0) = false := beq_eq_false_iff_ne.mpr c13
          have c13b1 : (t148 != 0) = true := bne_iff_ne.mpr c13
          (first | rw [c13b0] | (simp only [i64_w, i32_w]; rw [c13b0]) | skip)
          have H' := Aside0.mk H
          clear H
          go_wp2
          go_meet
          case rel => exact ⟨_, (true), (by first | rfl | (simp; done) | (simp [*]; done)), H', ⟨by first | omega | exact Nat.le_refl _⟩, ⟨by (with_reducible repeat (first | apply Kd.R_alloc | apply Kd.R_drewN | apply Kd.R_drew)); exact HO150.out⟩, ⟨by repeat (first | (with_reducible first | exact HB.out | apply below_alloc | apply pw_below_drewN | apply below_drew1) | exact HB.out)⟩⟩
      case rest =>
        clear HC9
        try clear c1
        try clear p2
        try clear c3
        try clear c4
        try clear c8
        try clear c13
        try clear c13b0
        try clear c13b1
        obtain ⟨kq, x47_8, rfl, HA, HJ8, HO_5, HB⟩ := hcut
        cases kq with
        | zero => exact absurd HA.out (by simp [psalterylaw15_BandEdges.j0])
        | succ kj8 =>
          have H := HA.out
          clear HA
          simp only [psalterylaw15_BandEdges.j0] at H
          by_cases c15 : x47_8 = true
          · subst c15
            have H1 : (some false) = some r := by rw [if_pos rfl] at H; exact H
            clear H
            have H := H1
            clear H1
            obtain rfl := Option.some.inj H
            go_wp2
            go_ret
            exact ⟨by first | rfl | (simp [errW_none, errW_some] <;> rfl) | (simp [*, errW_none, errW_some] <;> rfl), by repeat (first | (with_reducible first | exact HB.out | apply below_alloc | apply pw_below_drewN | apply below_drew1) | exact HB.out)⟩
          · replace c15 := Bool.eq_false_iff.mpr c15
            subst c15
            have H1 : (psalterylaw15_BandEdges.l0 kj8 a0 a1 t147 t151 t152 0) = some r := by rw [if_neg (show ¬ (false = true) by decide)] at H; exact H
            clear H
            have H := H1
            clear H1
            have H' := Aside0.mk H
            clear H
            go_wp2
            go_loopg [9] kj8 (fun kq v9 w' => ∃ (x9_2 : Int), v9 = .int .i64 x9_2 ∧ Aside0 (psalterylaw15_BandEdges.l0 kq a0 a1 t147 t151 t152 x9_2 = some r) ∧ Aside0 (kq ≤ kj8) ∧ Aside0 (Kd.R (Kd.int .i64) 85 w' w.heap.size (fun _ => True) v149 t147) ∧ Aside0 (Below w.heap.size w w'))
            case atStart => exact ⟨(0), (by first | rfl | (simp; done) | (simp [*]; done)), H', ⟨Nat.le_refl _⟩, ⟨by (with_reducible repeat (first | apply Kd.R_alloc | apply Kd.R_drewN | apply Kd.R_drew)); exact HO_5.out⟩, ⟨by repeat (first | (with_reducible first | exact HB.out | apply below_alloc | apply pw_below_drewN | apply below_drew1) | exact HB.out)⟩⟩
            case round =>
              clear H'
              try clear c1
              try clear p2
              try clear c3
              try clear c4
              try clear c8
              try clear c13
              try clear c13b0
              try clear c13b1
              try clear c15
              try clear p2
              obtain ⟨x9_2, rfl, HA, HK2, HO_5, HB⟩ := hrel
              cases gk with
              | zero => exact absurd HA.out (by simp [psalterylaw15_BandEdges.l0])
              | succ k2 =>
                have H := HA.out
                clear HA
                simp only [psalterylaw15_BandEdges.l0] at H
                by_cases c16 : x9_2 < 9
                · rw [if_pos c16] at H
                  have c16b0 : decide (x9_2 < 9) = true := decide_eq_true c16
                  clear c16
                  by_cases c17 : 0 ≤ x9_2
                  · rw [if_pos c17] at H
                    have c17b0 : decide (0 ≤ x9_2) = true := decide_eq_true c17
                    clear c17
                    by_cases c18 : x9_2 < (t147.length : Int)
                    · rw [if_pos c18] at H
                      have c18b0 : decide (x9_2 < (t147.length : Int)) = true := decide_eq_true c18
                      clear c18
                      replace H := Option.bind_eq_some_iff.mp H
                      obtain ⟨t155, A190, H⟩ := H
                      replace H : (if (rd t147 x9_2) = t155 then (psalterylaw15_BandEdges.l0 k2 a0 a1 t147 t151 t152 (wrap64 (x9_2 + 1))) else (some false)) = some r := H
                      have A19 := Aside0.mk A190
                      clear A190
                      by_cases c20 : (rd t147 x9_2) = t155
                      · rw [if_pos c20] at H
                        have c20b0 : ((rd t147 x9_2) == t155) = true := beq_iff_eq.mpr c20
                        have c20b1 : ((rd t147 x9_2) != t155) = false := bne_eq_false_iff_eq.mpr c20
                        clear c20
                        have H' := Aside0.mk H
                        clear H
                        try go_wp2
                        have n0_ := Aside0.mk (Kd.R_drew HO_5.out)
                        have n1_ := Aside0.mk (below_drew1 HB.out)
                        clear HO_5
                        clear HB
                        have HO_5 := n0_
                        have HB := n1_
                        clear n0_ n1_
                        obtain ⟨Ao22, co22, eo22⟩ := Kd.R_slice HO_5.out
                        (first | subst eo22 | (injection eo22 with f1_ f2_ f3_; have f4_ := f1_.symm; have f5_ := f3_.symm; clear f1_ f2_ f3_; subst f4_; subst f5_))
                        have p154 : 0 ≤ (x9_2 : Int) := of_decide_eq_true (by first | (with_reducible assumption) | assumption)
                        have q154 : x9_2 < (t147.length : Int) := of_decide_eq_true (by first | (with_reducible assumption) | assumption)
                        obtain ⟨ad154, e154, hx154_0⟩ := Kd.at_int (Kd.R_reads' HO_5.out).2.2 x9_2 p154 q154
                        cases e154
                        replace p154 := eq_true p154
                        replace q154 := eq_true q154
                        refine start_ (n := 8) (S := fun w' => w'.cell? (ad154.add (x9_2).toNat) = some (.int .i64 (rd t147 x9_2))) (ds := []) #[false, false, false, false, false, false, false, false] (by kernel_rfl) rfl rfl (hx154_0) (fun hHeld => ?_); refine with_tabW psalterylaw15_BandEdges.tab12 psalterylaw15_BandEdges.bits12 (fun HT_ HW_ => ?_)
                        generalize wr.drew = w21 at HO_5 HB hx154_0 hHeld ⊢
                        refine pure_ (i := 0) (N := some 52) (v := ?_) (a' := ?_) #[true, false, false, false, false, false, false, false] rfl rfl (any_of HT_.out (by kernel_rfl)) (fun _ _ _ h => h) (Or.inl ⟨by rfl, ?_⟩) ?_ ?_
                        rotate_left
                        · intro w'
                          go_simp
                          with_reducible rfl
                        rotate_left
                        · simp only [Act.put, List.setIfInBounds_toArray, List.set_cons_zero, List.set_cons_succ, i64_w, i32_w]
                          rfl
                        refine pure_ (i := 1) (N := some 53) (v := ?_) (a' := ?_) #[true, true, false, false, false, false, false, false] rfl rfl (any_of HT_.out (by kernel_rfl)) (fun _ _ _ h => h) (Or.inl ⟨by rfl, ?_⟩) ?_ ?_
                        rotate_left
                        · intro w'
                          go_simp
                          with_reducible rfl
                        rotate_left
                        · simp only [Act.put, List.setIfInBounds_toArray, List.set_cons_zero, List.set_cons_succ, i64_w, i32_w]
                          rfl
                        refine pure_ (i := 2) (N := some 54) (v := ?_) (a' := ?_) #[true, true, true, false, false, false, false, false] rfl rfl (any_of HT_.out (by kernel_rfl)) (fun _ _ _ h => h) (Or.inl ⟨by rfl, ?_⟩) ?_ ?_
                        rotate_left
                        · intro w'
                          go_simp
                          with_reducible rfl
                        rotate_left
                        · simp only [Act.put, List.setIfInBounds_toArray, List.set_cons_zero, List.set_cons_succ, i64_w, i32_w]
                          rfl
                        refine pure_ (i := 4) (N := some 56) (v := ?_) (a' := ?_) #[true, true, true, false, true, false, false, false] rfl rfl (any_of HT_.out (by kernel_rfl)) (fun _ _ _ h => h) (Or.inl ⟨by rfl, ?_⟩) ?_ ?_
                        rotate_left
                        · intro w'
                          go_simp
                          with_reducible rfl
                        rotate_left
                        · simp only [Act.put, List.setIfInBounds_toArray, List.set_cons_zero, List.set_cons_succ, i64_w, i32_w]
                          rfl
                        refine pure_ (i := 5) (N := some 57) (v := ?_) (a' := ?_) #[true, true, true, false, true, true, false, false] rfl rfl (any_of HT_.out (by kernel_rfl)) (fun _ _ _ h => h) (Or.inl ⟨by rfl, ?_⟩) ?_ ?_
                        rotate_left
                        · intro w'
                          go_simp
                          with_reducible rfl
                        rotate_left
                        · simp only [Act.put, List.setIfInBounds_toArray, List.set_cons_zero, List.set_cons_succ, i64_w, i32_w]
                          rfl
                        refine take_ (i := 3) (N := some 55) (v := ?_) (a' := ?_) #[true, true, true, true, true, true, false, false] rfl rfl (take_ofW HT_.out HW_.out (by kernel_rfl)) (fun _ _ _ h => h) (Or.inl ⟨by rfl, ?_⟩) hHeld ?_ ?_
                        rotate_left
                        · intro w' s0
                          go_simp
                          with_reducible rfl
                        rotate_left
                        · simp only [Act.put, List.setIfInBounds_toArray, List.set_cons_zero, List.set_cons_succ, i64_w, i32_w]
                          rfl
                        refine one_ (i := 6) (N := some 58) #[true, true, true, true, true, true, true, false] rfl rfl (one_of HT_.out (by kernel_rfl)) (by decide) (fun K hK => ?_)
                        refine goes_ Try.func34 (by kernel_rfl) rfl #[.int .i64 a0, .int .i64 x9_2] (by rfl) rfl rfl (by (try simp only [List.map_toArray, List.map_cons, List.map_nil]); first | done | rfl | (simp only [List.length_drop, List.length_take]; rfl)) ?_
                        with_reducible refine (psalteryref15_Edge.calls a0 x9_2 t155 _ A19.out).mono ?_
                        rintro e w23 ⟨rfl, hb⟩
                        have HS0_ := (hb.cell (World.block_lt_of_cell? _ _ (hHeld))).trans (hHeld)
                        refine ⟨_, rfl, ?_⟩
                        have n0_ := Aside0.mk (Kd.R_below (by (with_reducible repeat (first | apply Kd.R_alloc | apply Kd.R_drewN | apply Kd.R_drew)); exact HO_5.out) hb)
                        have n1_ := Aside0.mk (below_step (by repeat (first | (with_reducible first | exact HB.out | apply below_alloc | apply pw_below_drewN | apply below_drew1) | exact HB.out)) hb)
                        clear HO_5
                        clear HB
                        have HO_5 := n0_
                        have HB := n1_
                        clear n0_ n1_
                        (try clear hb)
                        (try clear hb2)
                        (try clear hk)
                        (try clear hi)
                        refine hK.out _ _ (HS0_) (fun hHeld => ?_)
                        clear hK K
                        refine norm_ (a' := ?_) ?_ ?_
                        rotate_left
                        · show Act.put _ (some 58) _ = _
                          simp only [Act.put, List.setIfInBounds_toArray, List.set_cons_zero, List.set_cons_succ, i64_w, i32_w]
                          rfl
                        refine pure_ (i := 7) (N := some 59) (v := ?_) (a' := ?_) #[true, true, true, true, true, true, true, true] rfl rfl (any_of HT_.out (by kernel_rfl)) (fun _ _ _ h => h) (Or.inl ⟨by rfl, ?_⟩) ?_ ?_
                        rotate_left
                        · intro w'
                          go_simp
                          with_reducible rfl
                        rotate_left
                        · simp only [Act.put, List.setIfInBounds_toArray, List.set_cons_zero, List.set_cons_succ, i64_w, i32_w]
                          rfl
                        refine done_ (done_of HT_.out (by kernel_rfl)) ?_
                        try go_wp2
                        go_roundg k2
                        case measure => have := HJ8.out; have := HK2.out; omega
                        case rel => exact ⟨(wrap64 (x9_2 + 1)), (by first | rfl | (simp; done) | (simp [*]; done)), H', ⟨by have := HJ8.out; have := HK2.out; omega⟩, ⟨by (with_reducible repeat (first | apply Kd.R_alloc | apply Kd.R_drewN | apply Kd.R_drew)); exact HO_5.out⟩, ⟨by repeat (first | (with_reducible first | exact HB.out | apply below_alloc | apply pw_below_drewN | apply below_drew1) | exact HB.out)⟩⟩
                      · rw [if_neg c20] at H
                        have c20b0 : ((rd t147 x9_2) == t155) = false := beq_eq_false_iff_ne.mpr c20
                        have c20b1 : ((rd t147 x9_2) != t155) = true := bne_iff_ne.mpr c20
                        obtain rfl := Option.some.inj H
                        try go_wp2
                        have n0_ := Aside0.mk (Kd.R_drew HO_5.out)
                        have n1_ := Aside0.mk (below_drew1 HB.out)
                        clear HO_5
                        clear HB
                        have HO_5 := n0_
                        have HB := n1_
                        clear n0_ n1_
                        obtain ⟨Ao25, co25, eo25⟩ := Kd.R_slice HO_5.out
                        (first | subst eo25 | (injection eo25 with f1_ f2_ f3_; have f4_ := f1_.symm; have f5_ := f3_.symm; clear f1_ f2_ f3_; subst f4_; subst f5_))
                        have p154 : 0 ≤ (x9_2 : Int) := of_decide_eq_true (by first | (with_reducible assumption) | assumption)
                        have q154 : x9_2 < (t147.length : Int) := of_decide_eq_true (by first | (with_reducible assumption) | assumption)
                        obtain ⟨ad154, e154, hx154_0⟩ := Kd.at_int (Kd.R_reads' HO_5.out).2.2 x9_2 p154 q154
                        cases e154
                        replace p154 := eq_true p154
                        replace q154 := eq_true q154
                        refine start_ (n := 8) (S := fun w' => w'.cell? (ad154.add (x9_2).toNat) = some (.int .i64 (rd t147 x9_2))) (ds := []) #[false, false, false, false, false, false, false, false] (by kernel_rfl) rfl rfl (hx154_0) (fun hHeld => ?_); refine with_tabW psalterylaw15_BandEdges.tab12 psalterylaw15_BandEdges.bits12 (fun HT_ HW_ => ?_)
                        generalize wr.drew = w24 at HO_5 HB hx154_0 hHeld ⊢
                        refine pure_ (i := 0) (N := some 52) (v := ?_) (a' := ?_) #[true, false, false, false, false, false, false, false] rfl rfl (any_of HT_.out (by kernel_rfl)) (fun _ _ _ h => h) (Or.inl ⟨by rfl, ?_⟩) ?_ ?_
                        rotate_left
                        · intro w'
                          go_simp
                          with_reducible rfl
                        rotate_left
                        · simp only [Act.put, List.setIfInBounds_toArray, List.set_cons_zero, List.set_cons_succ, i64_w, i32_w]
                          rfl
                        refine pure_ (i := 1) (N := some 53) (v := ?_) (a' := ?_) #[true, true, false, false, false, false, false, false] rfl rfl (any_of HT_.out (by kernel_rfl)) (fun _ _ _ h => h) (Or.inl ⟨by rfl, ?_⟩) ?_ ?_
                        rotate_left
                        · intro w'
                          go_simp
                          with_reducible rfl
                        rotate_left
                        · simp only [Act.put, List.setIfInBounds_toArray, List.set_cons_zero, List.set_cons_succ, i64_w, i32_w]
                          rfl
                        refine pure_ (i := 2) (N := some 54) (v := ?_) (a' := ?_) #[true, true, true, false, false, false, false, false] rfl rfl (any_of HT_.out (by kernel_rfl)) (fun _ _ _ h => h) (Or.inl ⟨by rfl, ?_⟩) ?_ ?_
                        rotate_left
                        · intro w'
                          go_simp
                          with_reducible rfl
                        rotate_left
                        · simp only [Act.put, List.setIfInBounds_toArray, List.set_cons_zero, List.set_cons_succ, i64_w, i32_w]
                          rfl
                        refine pure_ (i := 4) (N := some 56) (v := ?_) (a' := ?_) #[true, true, true, false, true, false, false, false] rfl rfl (any_of HT_.out (by kernel_rfl)) (fun _ _ _ h => h) (Or.inl ⟨by rfl, ?_⟩) ?_ ?_
                        rotate_left
                        · intro w'
                          go_simp
                          with_reducible rfl
                        rotate_left
                        · simp only [Act.put, List.setIfInBounds_toArray, List.set_cons_zero, List.set_cons_succ, i64_w, i32_w]
                          rfl
                        refine pure_ (i := 5) (N := some 57) (v := ?_) (a' := ?_) #[true, true, true, false, true, true, false, false] rfl rfl (any_of HT_.out (by kernel_rfl)) (fun _ _ _ h => h) (Or.inl ⟨by rfl, ?_⟩) ?_ ?_
                        rotate_left
                        · intro w'
                          go_simp
                          with_reducible rfl
                        rotate_left
                        · simp only [Act.put, List.setIfInBounds_toArray, List.set_cons_zero, List.set_cons_succ, i64_w, i32_w]
                          rfl
                        refine take_ (i := 3) (N := some 55) (v := ?_) (a' := ?_) #[true, true, true, true, true, true, false, false] rfl rfl (take_ofW HT_.out HW_.out (by kernel_rfl)) (fun _ _ _ h => h) (Or.inl ⟨by rfl, ?_⟩) hHeld ?_ ?_
                        rotate_left
                        · intro w' s0
                          go_simp
                          with_reducible rfl
                        rotate_left
                        · simp only [Act.put, List.setIfInBounds_toArray, List.set_cons_zero, List.set_cons_succ, i64_w, i32_w]
                          rfl
                        refine one_ (i := 6) (N := some 58) #[true, true, true, true, true, true, true, false] rfl rfl (one_of HT_.out (by kernel_rfl)) (by decide) (fun K hK => ?_)
                        refine goes_ Try.func34 (by kernel_rfl) rfl #[.int .i64 a0, .int .i64 x9_2] (by rfl) rfl rfl (by (try simp only [List.map_toArray, List.map_cons, List.map_nil]); first | done | rfl | (simp only [List.length_drop, List.length_take]; rfl)) ?_
                        with_reducible refine (psalteryref15_Edge.calls a0 x9_2 t155 _ A19.out).mono ?_
                        rintro e w26 ⟨rfl, hb⟩
                        have HS0_ := (hb.cell (World.block_lt_of_cell? _ _ (hHeld))).trans (hHeld)
                        refine ⟨_, rfl, ?_⟩
                        have n0_ := Aside0.mk (Kd.R_below (by (with_reducible repeat (first | apply Kd.R_alloc | apply Kd.R_drewN | apply Kd.R_drew)); exact HO_5.out) hb)
                        have n1_ := Aside0.mk (below_step (by repeat (first | (with_reducible first | exact HB.out | apply below_alloc | apply pw_below_drewN | apply below_drew1) | exact HB.out)) hb)
                        clear HO_5
                        clear HB
                        have HO_5 := n0_
                        have HB := n1_
                        clear n0_ n1_
                        (try clear hb)
                        (try clear hb2)
                        (try clear hk)
                        (try clear hi)
                        refine hK.out _ _ (HS0_) (fun hHeld => ?_)
                        clear hK K
                        refine norm_ (a' := ?_) ?_ ?_
                        rotate_left
                        · show Act.put _ (some 58) _ = _
                          simp only [Act.put, List.setIfInBounds_toArray, List.set_cons_zero, List.set_cons_succ, i64_w, i32_w]
                          rfl
                        refine pure_ (i := 7) (N := some 59) (v := ?_) (a' := ?_) #[true, true, true, true, true, true, true, true] rfl rfl (any_of HT_.out (by kernel_rfl)) (fun _ _ _ h => h) (Or.inl ⟨by rfl, ?_⟩) ?_ ?_
                        rotate_left
                        · intro w'
                          go_simp
                          with_reducible rfl
                        rotate_left
                        · simp only [Act.put, List.setIfInBounds_toArray, List.set_cons_zero, List.set_cons_succ, i64_w, i32_w]
                          rfl
                        refine done_ (done_of HT_.out (by kernel_rfl)) ?_
                        try go_wp2
                        go_ret
                        exact ⟨by first | rfl | (simp [errW_none, errW_some] <;> rfl) | (simp [*, errW_none, errW_some] <;> rfl), by repeat (first | (with_reducible first | exact HB.out | apply below_alloc | apply pw_below_drewN | apply below_drew1) | exact HB.out)⟩
                    · rw [if_neg c18] at H
                      exact absurd H (by simp)
                  · rw [if_neg c17] at H
                    exact absurd H (by simp)
                · rw [if_neg c16] at H
                  have c16b0 : decide (x9_2 < 9) = false := decide_eq_false c16
                  clear c16
                  by_cases c27 : a1 < 0
                  · rw [if_pos c27] at H
                    have c27b0 : decide (a1 < 0) = true := decide_eq_true c27
                    clear c27
                    by_cases c28 : t151 = 0
                    · rw [if_pos c28] at H
                      have c28b0 : (t151 == 0) = true := beq_iff_eq.mpr c28
                      have c28b1 : (t151 != 0) = false := bne_eq_false_iff_eq.mpr c28
                      clear c28
                      obtain rfl := Option.some.inj H
                      go_wp2
                      go_ret
                      exact ⟨by first | rfl | (simp [errW_none, errW_some] <;> rfl) | (simp [*, errW_none, errW_some] <;> rfl), by repeat (first | (with_reducible first | exact HB.out | apply below_alloc | apply pw_below_drewN | apply below_drew1) | exact HB.out)⟩
                    · rw [if_neg c28] at H
                      have c28b0 : (t151 == 0) = false := beq_eq_false_iff_ne.mpr c28
                      have c28b1 : (t151 != 0) = true := bne_iff_ne.mpr c28
                      obtain rfl := Option.some.inj H
                      go_wp2
                      go_ret
                      exact ⟨by first | rfl | (simp [errW_none, errW_some] <;> rfl) | (simp [*, errW_none, errW_some] <;> rfl), by repeat (first | (with_reducible first | exact HB.out | apply below_alloc | apply pw_below_drewN | apply below_drew1) | exact HB.out)⟩
                  · rw [if_neg c27] at H
                    have c27b0 : decide (a1 < 0) = false := decide_eq_false c27
                    clear c27
                    by_cases c29 : a1 > 3
                    · rw [if_pos c29] at H
                      have c29b0 : decide (3 < a1) = true := decide_eq_true c29
                      clear c29
                      by_cases c30 : t151 = 0
                      · rw [if_pos c30] at H
                        have c30b0 : (t151 == 0) = true := beq_iff_eq.mpr c30
                        have c30b1 : (t151 != 0) = false := bne_eq_false_iff_eq.mpr c30
                        clear c30
                        obtain rfl := Option.some.inj H
                        go_wp2
                        go_ret
                        exact ⟨by first | rfl | (simp [errW_none, errW_some] <;> rfl) | (simp [*, errW_none, errW_some] <;> rfl), by repeat (first | (with_reducible first | exact HB.out | apply below_alloc | apply pw_below_drewN | apply below_drew1) | exact HB.out)⟩
                      · rw [if_neg c30] at H
                        have c30b0 : (t151 == 0) = false := beq_eq_false_iff_ne.mpr c30
                        have c30b1 : (t151 != 0) = true := bne_iff_ne.mpr c30
                        obtain rfl := Option.some.inj H
                        go_wp2
                        go_ret
                        exact ⟨by first | rfl | (simp [errW_none, errW_some] <;> rfl) | (simp [*, errW_none, errW_some] <;> rfl), by repeat (first | (with_reducible first | exact HB.out | apply below_alloc | apply pw_below_drewN | apply below_drew1) | exact HB.out)⟩
                    · rw [if_neg c29] at H
                      have c29b0 : decide (3 < a1) = false := decide_eq_false c29
                      clear c29
                      by_cases c31 : t152 = 0
                      · rw [if_pos c31] at H
                        have c31b0 : (t152 == 0) = true := beq_iff_eq.mpr c31
                        have c31b1 : (t152 != 0) = false := bne_eq_false_iff_eq.mpr c31
                        clear c31
                        replace H := Option.bind_eq_some_iff.mp H
                        obtain ⟨t156, A320, H⟩ := H
                        replace H : (some (t151 == t156)) = some r := H
                        have A32 := Aside0.mk A320
                        clear A320
                        obtain rfl := Option.some.inj H
                        go_wp2_with (first | (go_at_call 34; (with_reducible refine (psalteryref15_Edge.calls a0 (wrap64 ((wrap64 (2 * a1)) + 2)) t156 _ A32.out).mono ?_); rintro e w33 ⟨rfl, hb⟩; have n0_ := Aside0.mk (Kd.R_below (by (with_reducible repeat (first | apply Kd.R_alloc | apply Kd.R_drewN | apply Kd.R_drew)); exact HO_5.out) hb); have n1_ := Aside0.mk (below_step (by repeat (first | (with_reducible first | exact HB.out | apply below_alloc | apply pw_below_drewN | apply below_drew1) | exact HB.out)) hb); clear HO_5; clear HB; have HO_5 := n0_; have HB := n1_; clear n0_ n1_; (try clear hb); (try clear hb2); (try clear hk); (try clear hi)))
                        go_ret
                        exact ⟨by first | rfl | (simp [errW_none, errW_some] <;> rfl) | (simp [*, errW_none, errW_some] <;> rfl), by repeat (first | (with_reducible first | exact HB.out | apply below_alloc | apply pw_below_drewN | apply below_drew1) | exact HB.out)⟩
                      · rw [if_neg c31] at H
                        have c31b0 : (t152 == 0) = false := beq_eq_false_iff_ne.mpr c31
                        have c31b1 : (t152 != 0) = true := bne_iff_ne.mpr c31
                        obtain rfl := Option.some.inj H
                        go_wp2
                        go_ret
                        exact ⟨by first | rfl | (simp [errW_none, errW_some] <;> rfl) | (simp [*, errW_none, errW_some] <;> rfl), by repeat (first | (with_reducible first | exact HB.out | apply below_alloc | apply pw_below_drewN | apply below_drew1) | exact HB.out)⟩
    · replace c8 := Bool.eq_false_iff.mpr c8
      subst c8
      have H1 : (if (t147.length : Int) = 0 then (if t148 = 1 then (if t151 = 0 then (some (t152 == 1)) else (some false)) else (some false)) else (some false)) = some r := by rw [if_neg (show ¬ (false = true) by decide)] at H; exact H
      clear H
      have H := H1
      clear H1
      by_cases c34 : (t147.length : Int) = 0
      · rw [if_pos c34] at H
        have c34b0 : ((t147.length : Int) == 0) = true := beq_iff_eq.mpr c34
        have c34b1 : ((t147.length : Int) != 0) = false := bne_eq_false_iff_eq.mpr c34
        clear c34
        by_cases c35 : t148 = 1
        · rw [if_pos c35] at H
          have c35b0 : (t148 == 1) = true := beq_iff_eq.mpr c35
          have c35b1 : (t148 != 1) = false := bne_eq_false_iff_eq.mpr c35
          clear c35
          by_cases c36 : t151 = 0
          · rw [if_pos c36] at H
            have c36b0 : (t151 == 0) = true := beq_iff_eq.mpr c36
            have c36b1 : (t151 != 0) = false := bne_eq_false_iff_eq.mpr c36
            clear c36
            obtain rfl := Option.some.inj H
            go_enter Try.func8, Try.ntmps8
            go_wp2_with (first | ((with_reducible refine gate_callee (f := 30) rfl ?_); refine goesL_ (some 10) rfl rfl Try.func30 (by kernel_rfl) rfl #[] rfl (by (try simp only [List.map_toArray, List.map_cons, List.map_nil]); first | done | rfl | (simp only [List.length_drop, List.length_take]; rfl)) ?_; (with_reducible refine (psalterylaw15_alive.calls k  true _ A3.out).mono ?_); rintro e w37 ⟨rfl, hb⟩; refine ⟨_, rfl, ?_⟩; have n0_ := Aside0.mk (below_step (by repeat (first | (with_reducible first | exact HB.out | apply below_alloc | apply pw_below_drewN | apply below_drew1) | exact HB.out)) hb); clear HB; have HB := n0_; clear n0_; (try clear hb); (try clear hb2); (try clear hk); (try clear hi)) | ((with_reducible refine gate_callee (f := 31) rfl ?_); refine goesL_ (some 14) rfl rfl Try.func31 (by kernel_rfl) rfl #[.int .i64 a0] rfl (by (try simp only [List.map_toArray, List.map_cons, List.map_nil]); first | done | rfl | (simp only [List.length_drop, List.length_take]; rfl)) ?_; (with_reducible refine (band_Edges.calls a0 t147 t148 _ A5.out).mono ?_); rintro e w38 ⟨v149, rfl, ho0, hb⟩; refine ⟨_, rfl, ?_⟩; have n0_ := Aside0.mk (Kd.R_lower ho0 (below_size (by repeat (first | (with_reducible first | exact HB.out | apply below_alloc | apply pw_below_drewN | apply below_drew1) | exact HB.out)))); have n1_ := Aside0.mk (below_step (by repeat (first | (with_reducible first | exact HB.out | apply below_alloc | apply pw_below_drewN | apply below_drew1) | exact HB.out)) hb); clear HB; have HO150 := n0_; have HB := n1_; clear n0_ n1_; (try clear hb); (try clear hb2); (try clear hk); (try clear hi); (try clear ho0)) | ((with_reducible refine gate_callee (f := 32) rfl ?_); refine goesL_ (some 20) rfl rfl Try.func32 (by kernel_rfl) rfl #[.int .i64 a0, .int .i64 a1] rfl (by (try simp only [List.map_toArray, List.map_cons, List.map_nil]); first | done | rfl | (simp only [List.length_drop, List.length_take]; rfl)) ?_; (with_reducible refine (band_Kept.calls a0 a1 t151 t152 _ A6.out).mono ?_); rintro e w39 ⟨rfl, hb⟩; refine ⟨_, rfl, ?_⟩; have n0_ := Aside0.mk (Kd.R_below (by (with_reducible repeat (first | apply Kd.R_alloc | apply Kd.R_drewN | apply Kd.R_drew)); exact HO150.out) hb); have n1_ := Aside0.mk (below_step (by repeat (first | (with_reducible first | exact HB.out | apply below_alloc | apply pw_below_drewN | apply below_drew1) | exact HB.out)) hb); clear HO150; clear HB; have HO150 := n0_; have HB := n1_; clear n0_ n1_; (try clear hb); (try clear hb2); (try clear hk); (try clear hi)) | ((with_reducible refine gate_callee (f := 33) rfl ?_); refine goesL_ (some 24) rfl rfl Try.func33 (by kernel_rfl) rfl #[.int .i64 a0] rfl (by (try simp only [List.map_toArray, List.map_cons, List.map_nil]); first | done | rfl | (simp only [List.length_drop, List.length_take]; rfl)) ?_; (with_reducible refine (psalteryref09_May.calls a0 false _ A7.out).mono ?_); rintro e w' ⟨rfl, ⟨nd, rfl⟩⟩; refine ⟨_, rfl, ?_⟩; obtain ⟨Ao40, co40, eo40⟩ := Kd.R_slice HO150.out; subst eo40))
            go_ret
            exact ⟨by first | rfl | (simp [errW_none, errW_some] <;> rfl) | (simp [*, errW_none, errW_some] <;> rfl), by repeat (first | (with_reducible first | exact HB.out | apply below_alloc | apply pw_below_drewN | apply below_drew1) | exact HB.out)⟩
          · rw [if_neg c36] at H
            have c36b0 : (t151 == 0) = false := beq_eq_false_iff_ne.mpr c36
            have c36b1 : (t151 != 0) = true := bne_iff_ne.mpr c36
            obtain rfl := Option.some.inj H
            go_enter Try.func8, Try.ntmps8
            go_wp2_with (first | ((with_reducible refine gate_callee (f := 30) rfl ?_); refine goesL_ (some 10) rfl rfl Try.func30 (by kernel_rfl) rfl #[] rfl (by (try simp only [List.map_toArray, List.map_cons, List.map_nil]); first | done | rfl | (simp only [List.length_drop, List.length_take]; rfl)) ?_; (with_reducible refine (psalterylaw15_alive.calls k  true _ A3.out).mono ?_); rintro e w41 ⟨rfl, hb⟩; refine ⟨_, rfl, ?_⟩; have n0_ := Aside0.mk (below_step (by repeat (first | (with_reducible first | exact HB.out | apply below_alloc | apply pw_below_drewN | apply below_drew1) | exact HB.out)) hb); clear HB; have HB := n0_; clear n0_; (try clear hb); (try clear hb2); (try clear hk); (try clear hi)) | ((with_reducible refine gate_callee (f := 31) rfl ?_); refine goesL_ (some 14) rfl rfl Try.func31 (by kernel_rfl) rfl #[.int .i64 a0] rfl (by (try simp only [List.map_toArray, List.map_cons, List.map_nil]); first | done | rfl | (simp only [List.length_drop, List.length_take]; rfl)) ?_; (with_reducible refine (band_Edges.calls a0 t147 t148 _ A5.out).mono ?_); rintro e w42 ⟨v149, rfl, ho0, hb⟩; refine ⟨_, rfl, ?_⟩; have n0_ := Aside0.mk (Kd.R_lower ho0 (below_size (by repeat (first | (with_reducible first | exact HB.out | apply below_alloc | apply pw_below_drewN | apply below_drew1) | exact HB.out)))); have n1_ := Aside0.mk (below_step (by repeat (first | (with_reducible first | exact HB.out | apply below_alloc | apply pw_below_drewN | apply below_drew1) | exact HB.out)) hb); clear HB; have HO150 := n0_; have HB := n1_; clear n0_ n1_; (try clear hb); (try clear hb2); (try clear hk); (try clear hi); (try clear ho0)) | ((with_reducible refine gate_callee (f := 32) rfl ?_); refine goesL_ (some 20) rfl rfl Try.func32 (by kernel_rfl) rfl #[.int .i64 a0, .int .i64 a1] rfl (by (try simp only [List.map_toArray, List.map_cons, List.map_nil]); first | done | rfl | (simp only [List.length_drop, List.length_take]; rfl)) ?_; (with_reducible refine (band_Kept.calls a0 a1 t151 t152 _ A6.out).mono ?_); rintro e w43 ⟨rfl, hb⟩; refine ⟨_, rfl, ?_⟩; have n0_ := Aside0.mk (Kd.R_below (by (with_reducible repeat (first | apply Kd.R_alloc | apply Kd.R_drewN | apply Kd.R_drew)); exact HO150.out) hb); have n1_ := Aside0.mk (below_step (by repeat (first | (with_reducible first | exact HB.out | apply below_alloc | apply pw_below_drewN | apply below_drew1) | exact HB.out)) hb); clear HO150; clear HB; have HO150 := n0_; have HB := n1_; clear n0_ n1_; (try clear hb); (try clear hb2); (try clear hk); (try clear hi)) | ((with_reducible refine gate_callee (f := 33) rfl ?_); refine goesL_ (some 24) rfl rfl Try.func33 (by kernel_rfl) rfl #[.int .i64 a0] rfl (by (try simp only [List.map_toArray, List.map_cons, List.map_nil]); first | done | rfl | (simp only [List.length_drop, List.length_take]; rfl)) ?_; (with_reducible refine (psalteryref09_May.calls a0 false _ A7.out).mono ?_); rintro e w' ⟨rfl, ⟨nd, rfl⟩⟩; refine ⟨_, rfl, ?_⟩; obtain ⟨Ao44, co44, eo44⟩ := Kd.R_slice HO150.out; subst eo44))
            go_ret
            exact ⟨by first | rfl | (simp [errW_none, errW_some] <;> rfl) | (simp [*, errW_none, errW_some] <;> rfl), by repeat (first | (with_reducible first | exact HB.out | apply below_alloc | apply pw_below_drewN | apply below_drew1) | exact HB.out)⟩
        · rw [if_neg c35] at H
          have c35b0 : (t148 == 1) = false := beq_eq_false_iff_ne.mpr c35
          have c35b1 : (t148 != 1) = true := bne_iff_ne.mpr c35
          obtain rfl := Option.some.inj H
          go_enter Try.func8, Try.ntmps8
          go_wp2_with (first | ((with_reducible refine gate_callee (f := 30) rfl ?_); refine goesL_ (some 10) rfl rfl Try.func30 (by kernel_rfl) rfl #[] rfl (by (try simp only [List.map_toArray, List.map_cons, List.map_nil]); first | done | rfl | (simp only [List.length_drop, List.length_take]; rfl)) ?_; (with_reducible refine (psalterylaw15_alive.calls k  true _ A3.out).mono ?_); rintro e w45 ⟨rfl, hb⟩; refine ⟨_, rfl, ?_⟩; have n0_ := Aside0.mk (below_step (by repeat (first | (with_reducible first | exact HB.out | apply below_alloc | apply pw_below_drewN | apply below_drew1) | exact HB.out)) hb); clear HB; have HB := n0_; clear n0_; (try clear hb); (try clear hb2); (try clear hk); (try clear hi)) | ((with_reducible refine gate_callee (f := 31) rfl ?_); refine goesL_ (some 14) rfl rfl Try.func31 (by kernel_rfl) rfl #[.int .i64 a0] rfl (by (try simp only [List.map_toArray, List.map_cons, List.map_nil]); first | done | rfl | (simp only [List.length_drop, List.length_take]; rfl)) ?_; (with_reducible refine (band_Edges.calls a0 t147 t148 _ A5.out).mono ?_); rintro e w46 ⟨v149, rfl, ho0, hb⟩; refine ⟨_, rfl, ?_⟩; have n0_ := Aside0.mk (Kd.R_lower ho0 (below_size (by repeat (first | (with_reducible first | exact HB.out | apply below_alloc | apply pw_below_drewN | apply below_drew1) | exact HB.out)))); have n1_ := Aside0.mk (below_step (by repeat (first | (with_reducible first | exact HB.out | apply below_alloc | apply pw_below_drewN | apply below_drew1) | exact HB.out)) hb); clear HB; have HO150 := n0_; have HB := n1_; clear n0_ n1_; (try clear hb); (try clear hb2); (try clear hk); (try clear hi); (try clear ho0)) | ((with_reducible refine gate_callee (f := 32) rfl ?_); refine goesL_ (some 20) rfl rfl Try.func32 (by kernel_rfl) rfl #[.int .i64 a0, .int .i64 a1] rfl (by (try simp only [List.map_toArray, List.map_cons, List.map_nil]); first | done | rfl | (simp only [List.length_drop, List.length_take]; rfl)) ?_; (with_reducible refine (band_Kept.calls a0 a1 t151 t152 _ A6.out).mono ?_); rintro e w47 ⟨rfl, hb⟩; refine ⟨_, rfl, ?_⟩; have n0_ := Aside0.mk (Kd.R_below (by (with_reducible repeat (first | apply Kd.R_alloc | apply Kd.R_drewN | apply Kd.R_drew)); exact HO150.out) hb); have n1_ := Aside0.mk (below_step (by repeat (first | (with_reducible first | exact HB.out | apply below_alloc | apply pw_below_drewN | apply below_drew1) | exact HB.out)) hb); clear HO150; clear HB; have HO150 := n0_; have HB := n1_; clear n0_ n1_; (try clear hb); (try clear hb2); (try clear hk); (try clear hi)) | ((with_reducible refine gate_callee (f := 33) rfl ?_); refine goesL_ (some 24) rfl rfl Try.func33 (by kernel_rfl) rfl #[.int .i64 a0] rfl (by (try simp only [List.map_toArray, List.map_cons, List.map_nil]); first | done | rfl | (simp only [List.length_drop, List.length_take]; rfl)) ?_; (with_reducible refine (psalteryref09_May.calls a0 false _ A7.out).mono ?_); rintro e w' ⟨rfl, ⟨nd, rfl⟩⟩; refine ⟨_, rfl, ?_⟩; obtain ⟨Ao48, co48, eo48⟩ := Kd.R_slice HO150.out; subst eo48))
          go_ret
          exact ⟨by first | rfl | (simp [errW_none, errW_some] <;> rfl) | (simp [*, errW_none, errW_some] <;> rfl), by repeat (first | (with_reducible first | exact HB.out | apply below_alloc | apply pw_below_drewN | apply below_drew1) | exact HB.out)⟩
      · rw [if_neg c34] at H
        have c34b0 : ((t147.length : Int) == 0) = false := beq_eq_false_iff_ne.mpr c34
        have c34b1 : ((t147.length : Int) != 0) = true := bne_iff_ne.mpr c34
        have c34b2 : ¬ (t147 = []) := fun h_ => c34 (by rw [h_]; rfl)
        obtain rfl := Option.some.inj H
        go_enter Try.func8, Try.ntmps8
        go_wp2_with (first | ((with_reducible refine gate_callee (f := 30) rfl ?_); refine goesL_ (some 10) rfl rfl Try.func30 (by kernel_rfl) rfl #[] rfl (by (try simp only [List.map_toArray, List.map_cons, List.map_nil]); first | done | rfl | (simp only [List.length_drop, List.length_take]; rfl)) ?_; (with_reducible refine (psalterylaw15_alive.calls k  true _ A3.out).mono ?_); rintro e w49 ⟨rfl, hb⟩; refine ⟨_, rfl, ?_⟩; have n0_ := Aside0.mk (below_step (by repeat (first | (with_reducible first | exact HB.out | apply below_alloc | apply pw_below_drewN | apply below_drew1) | exact HB.out)) hb); clear HB; have HB := n0_; clear n0_; (try clear hb); (try clear hb2); (try clear hk); (try clear hi)) | ((with_reducible refine gate_callee (f := 31) rfl ?_); refine goesL_ (some 14) rfl rfl Try.func31 (by kernel_rfl) rfl #[.int .i64 a0] rfl (by (try simp only [List.map_toArray, List.map_cons, List.map_nil]); first | done | rfl | (simp only [List.length_drop, List.length_take]; rfl)) ?_; (with_reducible refine (band_Edges.calls a0 t147 t148 _ A5.out).mono ?_); rintro e w50 ⟨v149, rfl, ho0, hb⟩; refine ⟨_, rfl, ?_⟩; have n0_ := Aside0.mk (Kd.R_lower ho0 (below_size (by repeat (first | (with_reducible first | exact HB.out | apply below_alloc | apply pw_below_drewN | apply below_drew1) | exact HB.out)))); have n1_ := Aside0.mk (below_step (by repeat (first | (with_reducible first | exact HB.out | apply below_alloc | apply pw_below_drewN | apply below_drew1) | exact HB.out)) hb); clear HB; have HO150 := n0_; have HB := n1_; clear n0_ n1_; (try clear hb); (try clear hb2); (try clear hk); (try clear hi); (try clear ho0)) | ((with_reducible refine gate_callee (f := 32) rfl ?_); refine goesL_ (some 20) rfl rfl Try.func32 (by kernel_rfl) rfl #[.int .i64 a0, .int .i64 a1] rfl (by (try simp only [List.map_toArray, List.map_cons, List.map_nil]); first | done | rfl | (simp only [List.length_drop, List.length_take]; rfl)) ?_; (with_reducible refine (band_Kept.calls a0 a1 t151 t152 _ A6.out).mono ?_); rintro e w51 ⟨rfl, hb⟩; refine ⟨_, rfl, ?_⟩; have n0_ := Aside0.mk (Kd.R_below (by (with_reducible repeat (first | apply Kd.R_alloc | apply Kd.R_drewN | apply Kd.R_drew)); exact HO150.out) hb); have n1_ := Aside0.mk (below_step (by repeat (first | (with_reducible first | exact HB.out | apply below_alloc | apply pw_below_drewN | apply below_drew1) | exact HB.out)) hb); clear HO150; clear HB; have HO150 := n0_; have HB := n1_; clear n0_ n1_; (try clear hb); (try clear hb2); (try clear hk); (try clear hi)) | ((with_reducible refine gate_callee (f := 33) rfl ?_); refine goesL_ (some 24) rfl rfl Try.func33 (by kernel_rfl) rfl #[.int .i64 a0] rfl (by (try simp only [List.map_toArray, List.map_cons, List.map_nil]); first | done | rfl | (simp only [List.length_drop, List.length_take]; rfl)) ?_; (with_reducible refine (psalteryref09_May.calls a0 false _ A7.out).mono ?_); rintro e w' ⟨rfl, ⟨nd, rfl⟩⟩; refine ⟨_, rfl, ?_⟩; obtain ⟨Ao52, co52, eo52⟩ := Kd.R_slice HO150.out; subst eo52))
        go_ret
        exact ⟨by first | rfl | (simp [errW_none, errW_some] <;> rfl) | (simp [*, errW_none, errW_some] <;> rfl), by repeat (first | (with_reducible first | exact HB.out | apply below_alloc | apply pw_below_drewN | apply below_drew1) | exact HB.out)⟩
  · replace c4 := Bool.eq_false_iff.mpr c4
    subst c4
    have H1 : (some false) = some r := by rw [if_neg (show ¬ (false = true) by decide)] at H; exact H
    clear H
    have H := H1
    clear H1
    obtain rfl := Option.some.inj H
    go_enter Try.func8, Try.ntmps8
    go_wp2_with (first | ((with_reducible refine gate_callee (f := 30) rfl ?_); refine goesL_ (some 10) rfl rfl Try.func30 (by kernel_rfl) rfl #[] rfl (by (try simp only [List.map_toArray, List.map_cons, List.map_nil]); first | done | rfl | (simp only [List.length_drop, List.length_take]; rfl)) ?_; (with_reducible refine (psalterylaw15_alive.calls k  false _ A3.out).mono ?_); rintro e w53 ⟨rfl, hb⟩; refine ⟨_, rfl, ?_⟩; have n0_ := Aside0.mk (below_step (by repeat (first | (with_reducible first | exact HB.out | apply below_alloc | apply pw_below_drewN | apply below_drew1) | exact HB.out)) hb); clear HB; have HB := n0_; clear n0_; (try clear hb); (try clear hb2); (try clear hk); (try clear hi)))
    go_ret
    exact ⟨by first | rfl | (simp [errW_none, errW_some] <;> rfl) | (simp [*, errW_none, errW_some] <;> rfl), by repeat (first | (with_reducible first | exact HB.out | apply below_alloc | apply pw_below_drewN | apply below_drew1) | exact HB.out)⟩

/-- THE ONE PURE STATEMENT of psalterylaw15_BandEdges: yours. -/
def psalterylaw15_BandEdges.Pure : Prop := ∀ (a0 : Int) (a1 : Int), (Lit.int .i64 a0).wf = true → (Lit.int .i64 a1).wf = true → ∃ k, psalterylaw15_BandEdges.f k a0 a1 = some true
theorem psalterylaw15_BandEdges.walk (P : psalterylaw15_BandEdges.Pure) (a0 : Int) (a1 : Int) (w : World) (w0 : (Lit.int .i64 a0).wf = true) (w1 : (Lit.int .i64 a1).wf = true) :
    Calls Try.prog 8 #[.int .i64 a0, .int .i64 a1] w fun e w' => e = .returned (.bool true) ∧ Below w.heap.size w w' := by
  obtain ⟨k, h⟩ := P a0 a1 w0 w1
  refine (psalterylaw15_BandEdges.calls k a0 a1 true w h).mono ?_
  rintro e w' ⟨rfl, hd⟩
  exact ⟨rfl, hd⟩

/-! ### slices_Clone: function 59, at a list that is not empty -/
theorem reads_int {k : IntKind} {w : World} {A : Option Addr} {n : Nat} {xs : List Int} (h : Kd.C (Kd.int k) w A n xs) : ReadsInt w k A n xs := by
  obtain ⟨h1, h2, h3⟩ := h
  refine ⟨h1, h2, fun hp => ?_⟩
  obtain ⟨ad, e, hc⟩ := h3 hp
  refine ⟨ad, e, fun j hj => ?_⟩
  obtain ⟨c, hl, hr, hcell⟩ := hc j _ (List.getElem?_eq_getElem (by omega))
  have hr' : c = [.int k (xs[j]'(by omega))] := hr
  have := hcell 0 (.int k (xs[j]'(by omega))) (by rw [hr']; rfl)
  have e1 : (Kd.int k).sz = 1 := rfl
  rw [e1, Nat.mul_one, Nat.add_zero] at this
  rw [this, List.getD_eq_getElem?_getD, List.getElem?_eq_getElem (by omega)]; rfl
theorem slices_Clone.calls (A0 : Option Addr) (c0 : Nat) (l0 : List Int) (w : World) (hr0 : Kd.C (Kd.int .i32) w A0 l0.length l0) (hp : 0 < l0.length) (hl : l0.length ≤ 1000) :
    Calls Try.prog 59 #[.slice A0 l0.length c0] w fun e w' => ∃ v, e = .returned v ∧ w'.ownsRow w.heap.size 21 1 v l0.length (nums .i32 l0) ∧ Below w.heap.size w w' := by
  obtain ⟨ad, eA, _⟩ := Kd.at_int hr0 0 (Int.le_refl _) (by omega)
  subst eA
  have hnil : ∀ W, (binOp .eql 69 (.slice (some ad) l0.length c0) (.slice none 0 0)).run Try.prog W = .ok (.bool false) W := fun W => by rw [Lib.run_eql_slice_nil W 69 21 (some ad) l0.length c0 0 0 Try.underlying69]; rfl
  have hr := Aside0.mk (reads_int hr0)
  clear hr0
  go_enter Try.func59, Try.ntmps59
  go_wp2_with (first | (at_builtin; refine print_append_row (w0 := w) w.heap.size rfl (.tmp 5) (.tmp 6) 69 21 .i32 4 rfl Try.underlying69 info21 (by decide) _ [] l0 (some ad) l0.length c0 rfl rfl ?own ?reads ?below ?base ?len ?_))
  case own => exact World.ownsRow_lit (base := w.heap.size) (e := 21) (size := 1) w #[] 0 (Nat.le_refl _) (by decide) rfl
  case reads => exact hr.out.below (below_alloc (Below.refl _ _) _)
  case below => exact below_alloc (Below.refl _ _) _
  case base => exact below_size (below_alloc (Below.refl _ _) _)
  case len => simp; omega
  intro v1 w1 hown hb hg _
  clear hg
  have HO := Aside0.mk (show w1.ownsRow w.heap.size 21 1 v1 l0.length (nums .i32 l0) from hown)
  have HB := Aside0.mk hb
  clear hown hb
  go_wp2
  go_ret
  exact ⟨v1, rfl, HO.out, HB.out⟩
/-! ### band_Narrow: function 44 -/
def band_Narrow.f (l0 : List Int) (a1 : Int) : Option (List Int × Int) := if edgesV (l0.length : Int) = [] ∨ a1 < 0 ∨ a1 > 3 then some ([], 1) else some (l0.take (rd (edgesV (l0.length : Int)) (2 * a1 + 2)).toNat ++ List.replicate (l0.length - (rd (edgesV (l0.length : Int)) (2 * a1 + 2)).toNat) 0, 0)
theorem zero32 (w : World) : (zeroValue 21).run Try.prog w = .ok (.int .i32 0) w := by kernel_rfl
/-- A row of which the places from m on are set to 0. -/
theorem row_clear {w1 : World} {base : Nat} {v : Value} {l0 : List Int} (ho : w1.ownsRow base 21 1 v l0.length (nums .i32 l0)) {m : Nat} (hm : m < l0.length) :
    ∃ g cap, v = .slice (some ⟨g, 0, none⟩) l0.length cap ∧ base ≤ g ∧ l0.length ≤ cap ∧ (∀ ty, (Builtin.clear_ #[69] ty #[.slice (some ⟨g, m, none⟩) (l0.length - m) (cap - m)]).run Try.prog w1 = .ok (.tuple #[]) (w1.setCells g m (List.replicate (l0.length - m) (.int .i32 0)))) ∧
      (w1.setCells g m (List.replicate (l0.length - m) (.int .i32 0))).ownsRow base 21 1 v l0.length (nums .i32 (l0.take m ++ List.replicate (l0.length - m) 0)) := by
  obtain ⟨h1, h2⟩ := ho
  rcases h2 with ⟨_, h0⟩ | ⟨g, cap, cur, rfl, hb, hh, hc, hcm, hs, ht⟩
  · omega
  · rw [Nat.mul_one] at hs ht
    obtain ⟨cur', hh', hs', ht'⟩ := setCells_row (List.replicate (l0.length - m) (.int .i32 0)) m w1 cur hh (by rw [List.length_replicate]; omega)
    refine ⟨g, cap, rfl, hb, hc, fun ty => ?_, by simp [nums]; omega, .inr ⟨g, cap, cur', rfl, hb, hh', hc, hcm, by omega, ?_⟩⟩
    · refine Lib.run_clear_slice w1 69 21 ty (.int .i32 0) Try.underlying69 zero32 rfl rfl g m (l0.length - m) (cap - m) (by omega) (fun j hj => ?_) (fun j hj => blk_frozen hh _)
      rw [blk_cell hh, Array.getElem?_eq_getElem (by omega)]; rfl
    · rw [ht', Nat.mul_one]
      have e1 : cur.toList.take m = nums .i32 (l0.take m) := by
        have : cur.toList.take m = (cur.toList.take l0.length).take m := by rw [List.take_take]; congr 1; omega
        rw [this, ht, nums, nums, List.map_take]
      rw [e1, List.take_append_of_le_length (by simp [nums]; omega), List.take_of_length_le (by simp [nums]; omega)]
      simp [nums]
theorem band_Narrow.callsErr (A0 : Option Addr) (c0 : Nat) (l0 : List Int) (a1 : Int) (w : World) (hk : band_Kept.f l0.length a1 = some (0, 1)) :
    Calls Try.prog 44 #[.slice A0 l0.length c0, .int .i64 a1] w fun e w' => ∃ v0_ : Value, e = .returned (.tuple #[v0_, .int .i64 1]) ∧ Kd.R (Kd.int .i32) 21 w' w.heap.size (fun _ => True) v0_ [] ∧ Below w.heap.size w w' := by
  have hk := Aside0.mk hk
  go_enter Try.func44, Try.ntmps44
  go_wp2_with (first | (go_at_call 32; refine (band_Kept.calls l0.length a1 0 1 _ hk.out).mono ?_; rintro e w1 ⟨rfl, hb⟩))
  go_ret2
  exact ⟨_, rfl, Kd.R_nil _ _ _ _ _, (by assumption)⟩
theorem band_Narrow.callsAll (A0 : Option Addr) (c0 : Nat) (l0 : List Int) (a1 : Int) (w : World) (hr0 : Kd.C (Kd.int .i32) w A0 l0.length l0) (hk : band_Kept.f l0.length a1 = some ((l0.length : Int), 0)) (hp : 0 < l0.length) (hl : l0.length ≤ 1000) :
    Calls Try.prog 44 #[.slice A0 l0.length c0, .int .i64 a1] w fun e w' => ∃ v0_ : Value, e = .returned (.tuple #[v0_, .int .i64 0]) ∧ Kd.R (Kd.int .i32) 21 w' w.heap.size (fun _ => True) v0_ l0 ∧ Below w.heap.size w w' := by
  have hk := Aside0.mk hk
  have HR0 := Aside0.mk hr0
  clear hr0
  obtain ⟨i0, hi0, hz⟩ := Option.map_eq_some_iff.1 info21
  simp only [Prod.mk.injEq] at hz
  have hsz := hz.2.1
  clear hz
  go_enter Try.func44, Try.ntmps44
  go_wp2_with (first | (go_at_call 32; refine (band_Kept.calls l0.length a1 l0.length 0 _ hk.out).mono ?_; rintro e w1 ⟨rfl, hb⟩; have HB := Aside0.mk hb; clear hb) | (go_at_call 59; refine (slices_Clone.calls A0 c0 l0 _ (Kd.C_below HR0.out HB.out) hp hl).mono ?_; rintro e w2 ⟨v, rfl, ho, hb2⟩; obtain ⟨g, cap, hv, hg1, hg2⟩ := ho.form hp; subst hv; have hcl := cut_from 69 21 .i64 Try.underlying69 hi0 1 hsz (some ⟨g, 0, none⟩) l0.length cap l0.length (by omega) (by omega); have hcb : ∀ ty (a : Option Addr) (c : Nat) (W : World), (Builtin.clear_ #[69] ty #[.slice a 0 c]).run Try.prog W = .ok (.tuple #[]) W := (fun ty a c W => by cases a <;> simp [Builtin.clear_, run_underlying Try.underlying69]); have HO := Aside0.mk ho; have HB2 := Aside0.mk (below_step HB.out hb2); clear ho hb2) | simp only [hcb])
  all_goals go_ret2
  · obtain rfl : cap = l0.length := by assumption
    exact ⟨_, rfl, Kd.R_lower (Kd.R_of_own HO.out (fun _ _ => trivial)) (below_size HB.out), HB2.out⟩
  · exact ⟨_, rfl, Kd.R_lower (Kd.R_of_own HO.out (fun _ _ => trivial)) (below_size HB.out), HB2.out⟩
theorem below_cells {B : Nat} {w W : World} (h : Below B w W) {g : Nat} (hg : B ≤ g) (o : Nat) (vs : List Value) : Below B w (W.setCells g o vs) := by
  obtain ⟨h1, h2, h3, h4⟩ := setCells_same g vs o W
  exact ⟨h1.trans h.os, h2.trans h.tape, h3.trans h.output, by rw [h4]; exact h.size, fun i hi => (setCells_far vs o i (by omega)).trans (h.block i hi)⟩
theorem band_Narrow.callsCut (A0 : Option Addr) (c0 : Nat) (l0 : List Int) (a1 : Int) (m : Nat) (w : World) (hr0 : Kd.C (Kd.int .i32) w A0 l0.length l0) (hk : band_Kept.f l0.length a1 = some ((m : Int), 0)) (hm : m < l0.length) (hl : l0.length ≤ 1000) :
    Calls Try.prog 44 #[.slice A0 l0.length c0, .int .i64 a1] w fun e w' => ∃ v0_ : Value, e = .returned (.tuple #[v0_, .int .i64 0]) ∧ Kd.R (Kd.int .i32) 21 w' w.heap.size (fun _ => True) v0_ (l0.take m ++ List.replicate (l0.length - m) 0) ∧ Below w.heap.size w w' := by
  have hk := Aside0.mk hk
  have HR0 := Aside0.mk hr0
  clear hr0
  have hp : 0 < l0.length := by omega
  obtain ⟨i0, hi0, hz⟩ := Option.map_eq_some_iff.1 info21
  simp only [Prod.mk.injEq] at hz
  have hsz := hz.2.1
  clear hz
  have cut : ∀ (g cap : Nat), l0.length ≤ cap → ∀ W, (Instr.slice 69 (.slice (some ⟨g, 0, none⟩) l0.length cap) (some (.int .i64 (m : Int))) none none).run Try.prog W = .ok (.slice (some ⟨g, m, none⟩) (l0.length - m) (cap - m)) W := by
    intro g cap hc W
    rw [cut_from 69 21 .i64 Try.underlying69 hi0 1 hsz (some ⟨g, 0, none⟩) l0.length cap m (by omega) (by omega), Int.toNat_natCast, if_neg (by omega)]
    simp [add_plain]
  have CUT := Aside0.mk cut
  clear cut
  have HM := Aside0.mk hm
  have HP := Aside0.mk hp
  have HL := Aside0.mk hl
  clear hm hp hl
  go_enter Try.func44, Try.ntmps44
  go_wp2_with (first | (go_at_call 32; refine (band_Kept.calls l0.length a1 m 0 _ hk.out).mono ?_; rintro e w1 ⟨rfl, hb⟩; have HB := Aside0.mk hb; clear hb) | (go_at_call 59; refine (slices_Clone.calls A0 c0 l0 _ (Kd.C_below HR0.out HB.out) HP.out HL.out).mono ?_; rintro e w2 ⟨v, rfl, ho, hb2⟩; obtain ⟨g, cap, hv, hg1, hcap, hclr, hown2⟩ := row_clear ho HM.out; subst hv; have hcl := CUT.out g cap hcap; have HO := Aside0.mk hown2; have HG := Aside0.mk hg1; have HB2 := Aside0.mk (below_step HB.out hb2); clear ho hb2 hown2 hcap hg1) | simp only [hclr])
  go_ret2
  have e_ : (l0.take m ++ List.replicate (l0.length - m) 0).length = l0.length := by have hm_ := HM.out; simp; omega
  have HO3 : Kd.R (Kd.int .i32) 21 (w2.setCells g m (List.replicate (l0.length - m) (.int .i32 0))) w.heap.size (fun _ => True) (.slice (some ⟨g, 0, none⟩) l0.length cap) (l0.take m ++ List.replicate (l0.length - m) 0) := Kd.R_lower (Kd.R_of_own (ok := fun _ => True) (xs := l0.take m ++ List.replicate (l0.length - m) 0) (by rw [e_]; exact HO.out) (fun _ _ => trivial)) (below_size HB.out)
  exact ⟨_, rfl, HO3, below_cells HB2.out (Nat.le_trans (below_size HB.out) HG.out) _ _⟩
theorem narrow_kept {l : List Int} {a1 m e : Int} (h : band_Kept.f l.length a1 = some (m, e)) : (e = 1 ∧ m = 0 ∧ (edgesV (l.length : Int) = [] ∨ a1 < 0 ∨ a1 > 3)) ∨ (e = 0 ∧ m = rd (edgesV (l.length : Int)) (2 * a1 + 2) ∧ ¬ (edgesV (l.length : Int) = [] ∨ a1 < 0 ∨ a1 > 3)) := by
  unfold band_Kept.f at h
  split at h
  · simp at h; exact .inl ⟨h.2.symm, h.1.symm, ‹_›⟩
  · simp at h; exact .inr ⟨h.2.symm, h.1.symm, ‹_›⟩
theorem edge_ends : ∀ n : Int, edgesV n ≠ [] → 0 < n ∧ n ≤ 120 ∧ ∀ a1 : Int, 0 ≤ a1 → a1 ≤ 3 → 0 ≤ rd (edgesV n) (2 * a1 + 2) ∧ rd (edgesV n) (2 * a1 + 2) ≤ n ∧ (a1 = 3 → rd (edgesV n) (2 * a1 + 2) = n) ∧ (a1 < 3 → rd (edgesV n) (2 * a1 + 2) < n) := by
  intro n hn
  rcases edges_cases n with rfl | rfl | rfl | rfl | ⟨_, he⟩
  · exact ⟨by decide, by decide, fun a h0 h1 => by have : a = 0 ∨ a = 1 ∨ a = 2 ∨ a = 3 := by omega
                                                   rcases this with rfl | rfl | rfl | rfl <;> decide +kernel⟩
  · exact ⟨by decide, by decide, fun a h0 h1 => by have : a = 0 ∨ a = 1 ∨ a = 2 ∨ a = 3 := by omega
                                                   rcases this with rfl | rfl | rfl | rfl <;> decide +kernel⟩
  · exact ⟨by decide, by decide, fun a h0 h1 => by have : a = 0 ∨ a = 1 ∨ a = 2 ∨ a = 3 := by omega
                                                   rcases this with rfl | rfl | rfl | rfl <;> decide +kernel⟩
  · exact ⟨by decide, by decide, fun a h0 h1 => by have : a = 0 ∨ a = 1 ∨ a = 2 ∨ a = 3 := by omega
                                                   rcases this with rfl | rfl | rfl | rfl <;> decide +kernel⟩
  · exact absurd he hn
theorem band_Narrow.calls (A0 : Option Addr) (c0 : Nat) (l0 : List Int) (a1 : Int) (r1 : List Int) (r2 : Int) (w : World) (hr0 : Kd.C (Kd.int .i32) w A0 l0.length l0) (hc0 : l0.length ≤ c0) (h : band_Narrow.f l0 a1 = some (r1, r2)) :
    Calls Try.prog 44 #[.slice A0 l0.length c0, .int .i64 a1] w fun e w' => ∃ v0_ : Value, e = .returned (.tuple #[v0_, .int .i64 r2]) ∧ Kd.R (Kd.int .i32) 21 w' w.heap.size (fun _ => True) v0_ r1 ∧ Below w.heap.size w w' := by
  unfold band_Narrow.f at h
  by_cases c : edgesV (l0.length : Int) = [] ∨ a1 < 0 ∨ a1 > 3
  · rw [if_pos c] at h; simp at h; obtain ⟨rfl, rfl⟩ := h
    exact band_Narrow.callsErr A0 c0 l0 a1 w (by unfold band_Kept.f; rw [if_pos c])
  · rw [if_neg c] at h; simp only [Option.some.injEq, Prod.mk.injEq] at h; obtain ⟨rfl, rfl⟩ := h
    obtain ⟨hn0, hn1, he⟩ := edge_ends l0.length (fun x => c (.inl x))
    obtain ⟨g0, g1, g2, g3⟩ := he a1 (by omega) (by omega)
    have hk : band_Kept.f (l0.length : Int) a1 = some (((rd (edgesV (l0.length : Int)) (2 * a1 + 2)).toNat : Int), 0) := by unfold band_Kept.f; rw [if_neg c, Int.toNat_of_nonneg g0]
    by_cases c3 : a1 = 3
    · have e : (rd (edgesV (l0.length : Int)) (2 * a1 + 2)).toNat = l0.length := by have := g2 c3; omega
      rw [e] at hk ⊢
      rw [List.take_length, Nat.sub_self, List.replicate_zero, List.append_nil]
      exact band_Narrow.callsAll A0 c0 l0 a1 w hr0 hk (by omega) (by omega)
    · exact band_Narrow.callsCut A0 c0 l0 a1 _ w hr0 hk (by have := g3 (by omega); omega) (by omega)

/-! ### psalteryref15_May: function 45 -/
def psalteryref15_May.f (l0 : List Int) : Option (Bool) := (psalteryref09_May.f (l0.length : Int)).bind fun t160 => (some t160)
set_option maxHeartbeats 8000000 in
set_option maxRecDepth 100000 in
theorem psalteryref15_May.calls (A0 : Option Addr) (c0 : Nat) (l0 : List Int) (r : Bool) (w : World) (hr0 : Kd.C (Kd.int .i32) w A0 l0.length l0) (hc0 : l0.length ≤ c0) (h : psalteryref15_May.f l0 = some r) :
    Calls Try.prog 45 #[.slice A0 l0.length c0] w fun e w' => e = .returned (.bool r) ∧ Drawn0 w w' := by
  have HR0 := Aside0.mk hr0
  have HC0 := Aside0.mk hc0
  clear hr0 hc0
  have H : ((psalteryref09_May.f (l0.length : Int)).bind fun t160 => (some t160)) = some r := h
  clear h
  replace H := Option.bind_eq_some_iff.mp H
  obtain ⟨t160, A20, H⟩ := H
  replace H : (some t160) = some r := H
  have A2 := Aside0.mk A20
  clear A20
  obtain rfl := Option.some.inj H
  go_enter Try.func45, Try.ntmps45
  go_wp2_with (first | ((with_reducible refine gate_callee (f := 33) rfl ?_); refine goesL_ (some 5) rfl rfl Try.func33 (by kernel_rfl) rfl #[.int .i64 (l0.length : Int)] rfl (by (try simp only [List.map_toArray, List.map_cons, List.map_nil]); first | done | rfl | (simp only [List.length_drop, List.length_take]; rfl)) ?_; (with_reducible refine (psalteryref09_May.calls (l0.length : Int) t160 _ A2.out).mono ?_); rintro e w' ⟨rfl, ⟨nd, rfl⟩⟩; refine ⟨_, rfl, ?_⟩))
  go_ret
  exact ⟨by first | rfl | (simp; done) | (simp [*]; done), by repeat (first | exact Drawn0.refl _ | apply Drawn0.step)⟩

/-! ### psalteryref15_Band: function 60 -/
def psalteryref15_Band.l0 : Nat → Int → Int → Int → Option (Int)
  | 0, _, _, _ => none
  | k + 1, x0, x1, x5 => (psalteryref15_Edge.f x0 (wrap64 (x5 + 1))).bind fun t161 => (if t161 ≤ x1 then (psalteryref15_Band.l0 k x0 x1 (wrap64 (x5 + 1))) else (some x5))
def psalteryref15_Band.f (k : Nat) (a0 : Int) (a1 : Int) : Option (Int) := psalteryref15_Band.l0 k a0 a1 0
theorem psalteryref15_Band.mono_l : ∀ k, (∀ y0 y1 y2, LeO (psalteryref15_Band.l0 k y0 y1 y2) (psalteryref15_Band.l0 (k + 1) y0 y1 y2))
  | 0 => fun _ _ _ r h => by simp [psalteryref15_Band.l0] at h
  | k + 1 => by
    have ih0 := psalteryref15_Band.mono_l k
    · intro y0 y1 y2
      unfold psalteryref15_Band.l0
      repeat' first
      | (with_reducible exact ih0 _ _ _)
      | (with_reducible exact LeO.refl _)
      | (with_reducible exact LeO.none _)
      | (with_reducible refine LeO.ite ?_ ?_)
      | (with_reducible refine LeO.bind ?_ (fun _ => ?_))
      | exact ih0 _ _ _
      | exact LeO.none _
      | refine LeO.ite ?_ ?_
      | refine LeO.bind ?_ (fun _ => ?_)
theorem psalteryref15_Band.mono : ∀ a0 a1 k, LeO (psalteryref15_Band.f k a0 a1) (psalteryref15_Band.f (k + 1) a0 a1) := by
  intro a0 a1 k
  have ih0 := psalteryref15_Band.mono_l k
  unfold psalteryref15_Band.f
  repeat' first
      | (with_reducible exact ih0 _ _ _)
      | (with_reducible exact LeO.refl _)
      | (with_reducible exact LeO.none _)
      | (with_reducible refine LeO.ite ?_ ?_)
      | (with_reducible refine LeO.bind ?_ (fun _ => ?_))
      | exact ih0 _ _ _
      | exact LeO.none _
      | refine LeO.ite ?_ ?_
      | refine LeO.bind ?_ (fun _ => ?_)
set_option maxHeartbeats 8000000 in
set_option maxRecDepth 100000 in
theorem psalteryref15_Band.calls (k : Nat) (a0 : Int) (a1 : Int) (r : Int) (w : World) (h : psalteryref15_Band.f k a0 a1 = some r) :
    Calls Try.prog 60 #[.int .i64 a0, .int .i64 a1] w fun e w' => e = .returned (.int .i64 r) ∧ Below w.heap.size w w' := by
  have HB := Aside0.mk (Below.refl w.heap.size w)
  have H : (psalteryref15_Band.l0 k a0 a1 0) = some r := h
  clear h
  have H' := Aside0.mk H
  clear H
  go_enter Try.func60, Try.ntmps60
  go_wp2
  go_loopg [5] k (fun kq v5 w' => ∃ (x5_1 : Int), v5 = .int .i64 x5_1 ∧ Aside0 (psalteryref15_Band.l0 kq a0 a1 x5_1 = some r) ∧ Aside0 (kq ≤ k) ∧ Aside0 (Below w.heap.size w w'))
  case atStart => exact ⟨(0), (by first | rfl | (simp; done) | (simp [*]; done)), H', ⟨Nat.le_refl _⟩, ⟨by repeat (first | (with_reducible first | exact HB.out | apply below_alloc | apply pw_below_drewN | apply below_drew1) | exact HB.out)⟩⟩
  case round =>
    clear H'
    try clear p2
    obtain ⟨x5_1, rfl, HA, HK1, HB⟩ := hrel
    cases gk with
    | zero => exact absurd HA.out (by simp [psalteryref15_Band.l0])
    | succ k1 =>
      have H := HA.out
      clear HA
      simp only [psalteryref15_Band.l0] at H
      replace H := Option.bind_eq_some_iff.mp H
      obtain ⟨t161, A30, H⟩ := H
      replace H : (if t161 ≤ a1 then (psalteryref15_Band.l0 k1 a0 a1 (wrap64 (x5_1 + 1))) else (some x5_1)) = some r := H
      have A3 := Aside0.mk A30
      clear A30
      by_cases c4 : t161 ≤ a1
      · rw [if_pos c4] at H
        have c4b0 : decide (t161 ≤ a1) = true := decide_eq_true c4
        clear c4
        have H' := Aside0.mk H
        clear H
        go_wp2_with (first | ((with_reducible refine gate_callee (f := 34) rfl ?_); refine goesL_ (some 9) rfl rfl Try.func34 (by kernel_rfl) rfl #[.int .i64 a0, .int .i64 (wrap64 (x5_1 + 1))] rfl (by (try simp only [List.map_toArray, List.map_cons, List.map_nil]); first | done | rfl | (simp only [List.length_drop, List.length_take]; rfl)) ?_; (with_reducible refine (psalteryref15_Edge.calls a0 (wrap64 (x5_1 + 1)) t161 _ A3.out).mono ?_); rintro e w5 ⟨rfl, hb⟩; refine ⟨_, rfl, ?_⟩; have n0_ := Aside0.mk (below_step (by repeat (first | (with_reducible first | exact HB.out | apply below_alloc | apply pw_below_drewN | apply below_drew1) | exact HB.out)) hb); clear HB; have HB := n0_; clear n0_; (try clear hb); (try clear hb2); (try clear hk); (try clear hi)))
        go_roundg k1
        case measure => have := HK1.out; omega
        case rel => exact ⟨(wrap64 (x5_1 + 1)), (by first | rfl | (simp; done) | (simp [*]; done)), H', ⟨by have := HK1.out; omega⟩, ⟨by repeat (first | (with_reducible first | exact HB.out | apply below_alloc | apply pw_below_drewN | apply below_drew1) | exact HB.out)⟩⟩
      · rw [if_neg c4] at H
        have c4b0 : decide (t161 ≤ a1) = false := decide_eq_false c4
        clear c4
        obtain rfl := Option.some.inj H
        go_wp2_with (first | ((with_reducible refine gate_callee (f := 34) rfl ?_); refine goesL_ (some 9) rfl rfl Try.func34 (by kernel_rfl) rfl #[.int .i64 a0, .int .i64 (wrap64 (x5_1 + 1))] rfl (by (try simp only [List.map_toArray, List.map_cons, List.map_nil]); first | done | rfl | (simp only [List.length_drop, List.length_take]; rfl)) ?_; (with_reducible refine (psalteryref15_Edge.calls a0 (wrap64 (x5_1 + 1)) t161 _ A3.out).mono ?_); rintro e w6 ⟨rfl, hb⟩; refine ⟨_, rfl, ?_⟩; have n0_ := Aside0.mk (below_step (by repeat (first | (with_reducible first | exact HB.out | apply below_alloc | apply pw_below_drewN | apply below_drew1) | exact HB.out)) hb); clear HB; have HB := n0_; clear n0_; (try clear hb); (try clear hb2); (try clear hk); (try clear hi)))
        go_ret
        exact ⟨by first | rfl | (simp [errW_none, errW_some] <;> rfl) | (simp [*, errW_none, errW_some] <;> rfl), by repeat (first | (with_reducible first | exact HB.out | apply below_alloc | apply pw_below_drewN | apply below_drew1) | exact HB.out)⟩

/-! ### psalteryref15_Energies: function 46 -/
def psalteryref15_Energies.l0 : Nat → List Int → List Int → Int → Option (List Int)
  | 0, _, _, _ => none
  | k + 1, x0, x3, x4 => if x4 < (x0.length : Int) then (if 0 ≤ x4 then (if (wrap64 (rd x0 x4)) < 0 then ((psalteryref15_Band.f k (x0.length : Int) x4).bind fun t166 => (if 0 ≤ t166 then (if t166 < (x3.length : Int) then (psalteryref15_Energies.l0 k x0 (x3.set (t166 : Int).toNat (IntKind.u64.wrap ((rd x3 t166) + (IntKind.u64.wrap (wrap64 ((wrap64 (Int.tdiv (wrap64 (-(wrap64 (rd x0 x4)))) 8)) * (wrap64 (Int.tdiv (wrap64 (-(wrap64 (rd x0 x4)))) 8)))))))) (wrap64 (x4 + 1))) else (none)) else (none))) else ((psalteryref15_Band.f k (x0.length : Int) x4).bind fun t169 => (if 0 ≤ t169 then (if t169 < (x3.length : Int) then (psalteryref15_Energies.l0 k x0 (x3.set (t169 : Int).toNat (IntKind.u64.wrap ((rd x3 t169) + (IntKind.u64.wrap (wrap64 ((wrap64 (Int.tdiv (wrap64 (rd x0 x4)) 8)) * (wrap64 (Int.tdiv (wrap64 (rd x0 x4)) 8)))))))) (wrap64 (x4 + 1))) else (none)) else (none)))) else (none)) else (some x3)
def psalteryref15_Energies.f (k : Nat) (l0 : List Int) : Option (List Int) := if 8 ≤ 35184372088832 then (psalteryref15_Energies.l0 k l0 (List.replicate 8 0) 0) else (none)
theorem psalteryref15_Energies.mono_l : ∀ k, (∀ y0 y1 y2, LeO (psalteryref15_Energies.l0 k y0 y1 y2) (psalteryref15_Energies.l0 (k + 1) y0 y1 y2))
  | 0 => fun _ _ _ r h => by simp [psalteryref15_Energies.l0] at h
  | k + 1 => by
    have ih0 := psalteryref15_Energies.mono_l k
    · intro y0 y1 y2
      unfold psalteryref15_Energies.l0
      repeat' first
      | (with_reducible exact ih0 _ _ _)
      | (with_reducible exact psalteryref15_Band.mono _ _ _)
      | (with_reducible exact LeO.refl _)
      | (with_reducible exact LeO.none _)
      | (with_reducible refine LeO.ite ?_ ?_)
      | (with_reducible refine LeO.bind ?_ (fun _ => ?_))
      | exact ih0 _ _ _
      | exact psalteryref15_Band.mono _ _ _
      | exact LeO.none _
      | refine LeO.ite ?_ ?_
      | refine LeO.bind ?_ (fun _ => ?_)
theorem psalteryref15_Energies.mono : ∀ a0 k, LeO (psalteryref15_Energies.f k a0) (psalteryref15_Energies.f (k + 1) a0) := by
  intro a0 k
  have ih0 := psalteryref15_Energies.mono_l k
  unfold psalteryref15_Energies.f
  repeat' first
      | (with_reducible exact ih0 _ _ _)
      | (with_reducible exact psalteryref15_Band.mono _ _ _)
      | (with_reducible exact LeO.refl _)
      | (with_reducible exact LeO.none _)
      | (with_reducible refine LeO.ite ?_ ?_)
      | (with_reducible refine LeO.bind ?_ (fun _ => ?_))
      | exact ih0 _ _ _
      | exact psalteryref15_Band.mono _ _ _
      | exact LeO.none _
      | refine LeO.ite ?_ ?_
      | refine LeO.bind ?_ (fun _ => ?_)
set_option maxHeartbeats 8000000 in
set_option maxRecDepth 100000 in
theorem psalteryref15_Energies.calls (k : Nat) (A0 : Option Addr) (c0 : Nat) (l0 : List Int) (r : List Int) (w : World) (hr0 : Kd.C (Kd.int .i32) w A0 l0.length l0) (hc0 : l0.length ≤ c0) (h : psalteryref15_Energies.f k l0 = some r) :
    Calls Try.prog 46 #[.slice A0 l0.length c0] w fun e w' => ∃ v0_ : Value, e = .returned (v0_) ∧ Kd.R (Kd.int .u64) 66 w' w.heap.size (fun _ => True) v0_ r ∧ Below w.heap.size w w' := by
  have HR0 := Aside0.mk hr0
  have HC0 := Aside0.mk hc0
  clear hr0 hc0
  have HB := Aside0.mk (Below.refl w.heap.size w)
  have H : (if 8 ≤ 35184372088832 then (psalteryref15_Energies.l0 k l0 (List.replicate 8 0) 0) else (none)) = some r := h
  clear h
  by_cases c2 : 8 ≤ 35184372088832
  · rw [if_pos c2] at H
    have c2b0 := eq_true c2
    have c2b1 : decide (8 ≤ 35184372088832) = true := decide_eq_true c2
    clear c2
    obtain ⟨y162, hy162⟩ : ∃ y_ : List Int, y_ = (List.replicate 8 0) := ⟨_, rfl⟩
    replace H : (psalteryref15_Energies.l0 k l0 y162 0) = some r := by first | (rw [hy162]; with_reducible exact H) | (have H2_ := (Option.bind_some _ _).symm.trans H; rw [hy162]; with_reducible exact H2_) | (have H2_ := (Option.bind_some _ _).symm.trans H; with_reducible exact H2_) | with_reducible exact H | (rw [hy162]; exact H) | exact H
    have Ny162 := Aside0.mk hy162
    clear hy162
    have H' := Aside0.mk H
    clear H
    go_enter Try.func46, Try.ntmps46
    go_wp2_with (first | ((with_reducible refine gate_dst (N := 7) rfl ?_); refine Kd.R_make (Kd.int .u64) _ 66 rfl (N := 7) rfl 70 _ _ rfl 8 rfl rfl Try.underlying70 (.int .u64 0) 8 info66 rfl (by decide) (by omega) 0 (ok := fun _ => True) (okp := fun _ => True) rfl (fun _ hk => hk) trivial (by omega) (by omega) (Below.refl _ _) (Nat.le_refl _) ?_; intro v163 w3 ho4 hb hg_ hnew_; clear hg_ hnew_; (first | rw [← Ny162.out] at ho4 | (simp only [Int.reduceToNat] at ho4; rw [← Ny162.out] at ho4)); have n0_ := Aside0.mk (Kd.R_lower ho4 (below_size (by repeat (first | (with_reducible first | exact HB.out | apply below_alloc | apply pw_below_drewN | apply below_drew1) | exact HB.out)))); have n1_ := Aside0.mk (below_step (by repeat (first | (with_reducible first | exact HB.out | apply below_alloc | apply pw_below_drewN | apply below_drew1) | exact HB.out)) hb); clear HB; have HO164 := n0_; have HB := n1_; clear n0_ n1_; clear hb ho4))
    go_loopg [4] k (fun kq v4 w' => ∃ (x3_1 : List Int) (x4_1 : Int), v4 = .int .i64 x4_1 ∧ Aside0 (psalteryref15_Energies.l0 kq l0 x3_1 x4_1 = some r) ∧ Aside0 (kq ≤ k) ∧ Aside0 (Kd.R (Kd.int .u64) 66 w' w.heap.size (fun _ => True) v163 x3_1) ∧ Aside0 (Below w.heap.size w w'))
    case atStart => exact ⟨(y162), (0), (by first | rfl | (simp; done) | (simp [*]; done)), H', ⟨Nat.le_refl _⟩, ⟨by (with_reducible repeat (first | apply Kd.R_alloc | apply Kd.R_drewN | apply Kd.R_drew)); exact HO164.out⟩, ⟨by repeat (first | (with_reducible first | exact HB.out | apply below_alloc | apply pw_below_drewN | apply below_drew1) | exact HB.out)⟩⟩
    case round =>
      clear H'
      try clear c2
      try clear c2b0
      try clear c2b1
      try clear p2
      try clear c4
      obtain ⟨x3_1, x4_1, rfl, HA, HK1, HO_3, HB⟩ := hrel
      cases gk with
      | zero => exact absurd HA.out (by simp [psalteryref15_Energies.l0])
      | succ k1 =>
        have H := HA.out
        clear HA
        simp only [psalteryref15_Energies.l0] at H
        by_cases c5 : x4_1 < (l0.length : Int)
        · rw [if_pos c5] at H
          have c5b0 : decide (x4_1 < (l0.length : Int)) = true := decide_eq_true c5
          clear c5
          by_cases c6 : 0 ≤ x4_1
          · rw [if_pos c6] at H
            have c6b0 : decide (0 ≤ x4_1) = true := decide_eq_true c6
            clear c6
            by_cases c7 : (wrap64 (rd l0 x4_1)) < 0
            · rw [if_pos c7] at H
              have c7b0 : decide ((wrap64 (rd l0 x4_1)) < 0) = true := decide_eq_true c7
              clear c7
              replace H := Option.bind_eq_some_iff.mp H
              obtain ⟨t166, A80, H⟩ := H
              replace H : (if 0 ≤ t166 then (if t166 < (x3_1.length : Int) then (psalteryref15_Energies.l0 k1 l0 (x3_1.set (t166 : Int).toNat (IntKind.u64.wrap ((rd x3_1 t166) + (IntKind.u64.wrap (wrap64 ((wrap64 (Int.tdiv (wrap64 (-(wrap64 (rd l0 x4_1)))) 8)) * (wrap64 (Int.tdiv (wrap64 (-(wrap64 (rd l0 x4_1)))) 8)))))))) (wrap64 (x4_1 + 1))) else (none)) else (none)) = some r := H
              have A8 := Aside0.mk A80
              clear A80
              by_cases c9 : 0 ≤ t166
              · rw [if_pos c9] at H
                have c9b0 : decide (0 ≤ t166) = true := decide_eq_true c9
                clear c9
                by_cases c10 : t166 < (x3_1.length : Int)
                · rw [if_pos c10] at H
                  have c10b0 : decide (t166 < (x3_1.length : Int)) = true := decide_eq_true c10
                  clear c10
                  obtain ⟨y168, hy168⟩ : ∃ y_ : List Int, y_ = (x3_1.set (t166 : Int).toNat (IntKind.u64.wrap ((rd x3_1 t166) + (IntKind.u64.wrap (wrap64 ((wrap64 (Int.tdiv (wrap64 (-(wrap64 (rd l0 x4_1)))) 8)) * (wrap64 (Int.tdiv (wrap64 (-(wrap64 (rd l0 x4_1)))) 8)))))))) := ⟨_, rfl⟩
                  replace H : (psalteryref15_Energies.l0 k1 l0 y168 (wrap64 (x4_1 + 1))) = some r := by first | (rw [hy168]; with_reducible exact H) | (have H2_ := (Option.bind_some _ _).symm.trans H; rw [hy168]; with_reducible exact H2_) | (have H2_ := (Option.bind_some _ _).symm.trans H; with_reducible exact H2_) | with_reducible exact H | (rw [hy168]; exact H) | exact H
                  have Ny168 := Aside0.mk hy168
                  clear hy168
                  have H' := Aside0.mk H
                  clear H
                  have p165 : 0 ≤ (x4_1 : Int) := of_decide_eq_true (by first | (with_reducible assumption) | assumption)
                  have q165 : x4_1 < (l0.length : Int) := of_decide_eq_true (by first | (with_reducible assumption) | assumption)
                  obtain ⟨ad165, e165, hx165_0⟩ := Kd.at_int HR0.out x4_1 p165 q165
                  cases e165
                  replace hx165_0 := (HB.out.cell (World.block_lt_of_cell? w _ hx165_0)).trans hx165_0
                  replace p165 := eq_true p165
                  replace q165 := eq_true q165
                  go_wp2_with (first | ((with_reducible refine gate_callee (f := 60) rfl ?_); refine goesL_ (some 28) rfl rfl Try.func60 (by kernel_rfl) rfl #[.int .i64 (l0.length : Int), .int .i64 x4_1] rfl (by (try simp only [List.map_toArray, List.map_cons, List.map_nil]); first | done | rfl | (simp only [List.length_drop, List.length_take]; rfl)) ?_; (with_reducible refine (psalteryref15_Band.calls k1 (l0.length : Int) x4_1 t166 _ A8.out).mono ?_); rintro e w12 ⟨rfl, hb⟩; refine ⟨_, rfl, ?_⟩; have n0_ := Aside0.mk (Kd.R_below (by (with_reducible repeat (first | apply Kd.R_alloc | apply Kd.R_drewN | apply Kd.R_drew)); exact HO_3.out) hb); have n1_ := Aside0.mk (below_step (by repeat (first | (with_reducible first | exact HB.out | apply below_alloc | apply pw_below_drewN | apply below_drew1) | exact HB.out)) hb); clear HO_3; clear HB; have HO_3 := n0_; have HB := n1_; clear n0_ n1_; (try clear hb); (try clear hb2); (try clear hk); (try clear hi); obtain ⟨Ao13, co13, eo13⟩ := Kd.R_slice HO_3.out; subst eo13; have p167 : 0 ≤ (t166 : Int) := of_decide_eq_true (by first | (with_reducible assumption) | assumption); have q167 : t166 < (x3_1.length : Int) := of_decide_eq_true (by first | (with_reducible assumption) | assumption); obtain ⟨ad167, e167, hx167_0⟩ := Kd.at_int (Kd.R_reads' HO_3.out).2.2 t166 p167 q167; cases e167; replace p167 := eq_true p167; replace q167 := eq_true q167; have p11 : 0 ≤ (t166 : Int) := of_decide_eq_true (by first | (with_reducible assumption) | assumption); have q11 : (t166 : Int) < ((x3_1.length : Int) : Int) := of_decide_eq_true (by first | (with_reducible assumption) | assumption); obtain ⟨go11, co11, eo11, gb11, gl11, cl11, HG11⟩ := Kd.R_form HO_3.out (by omega); (first | cases eo11 | (injection eo11 with ea_ en_ ec_; (first | subst ea_ | (injection ea_ with ea_; subst ea_)); subst ec_; clear en_)); have GB11 := Aside0.mk gb11; have GG11 := Aside0.mk HG11; clear gb11 gl11 HG11; (first | simp only [add_plain] at hx167_0 | skip); obtain ⟨hx11_0, hf11_0⟩ := Kd.R_celln 0 HO_3.out (t166 : Int) p11 q11; replace p11 := eq_true p11; replace q11 := eq_true q11; obtain ⟨hy14_, hz14_⟩ := Kd.R_celln 0 HO_3.out (t166 : Int) (of_decide_eq_true (by first | (with_reducible assumption) | assumption)) (of_decide_eq_true (by first | (with_reducible assumption) | assumption)); have HP14 := Kd.R_putg HO_3.out (t166 : Int) (IntKind.u64.wrap ((rd x3_1 t166) + (IntKind.u64.wrap (wrap64 ((wrap64 (Int.tdiv (wrap64 (-(wrap64 (rd l0 x4_1)))) 8)) * (wrap64 (Int.tdiv (wrap64 (-(wrap64 (rd l0 x4_1)))) 8)))))))) | ((with_reducible refine gate_store (t := 66) (p := 40) rfl ?_); refine store_event (t := 66) (p := 40) (v := ?vo_w15) (w1 := (w12.setCell ⟨go11, (t166 : Int).toNat, none⟩ (.int .u64 (IntKind.u64.wrap ((rd x3_1 t166) + (IntKind.u64.wrap (wrap64 ((wrap64 (Int.tdiv (wrap64 (-(wrap64 (rd l0 x4_1)))) 8)) * (wrap64 (Int.tdiv (wrap64 (-(wrap64 (rd l0 x4_1)))) 8)))))))))) ?hg ?ho ?hn ?hr ?_; (case ho => rfl); (case hg => rfl); (case hn => rfl); (case hr => first | (go_simp; done) | (go_simp; rfl)); intro w15 hw; have hg : w12.grownBy w15 (some go11) := (by rw [hw]; exact HP14.2); have hp_ : Kd.R (Kd.int .u64) 66 w15 w.heap.size (fun _ => True) (.slice (some ⟨go11, 0, none⟩) x3_1.length co13) y168 := (by rw [hw, Ny168.out]; exact HP14.1); clear HP14; have n0_ := Aside0.mk (hp_); have n1_ := Aside0.mk ((by rw [hw]; exact below_set (HB.out) GB11.out : Below w.heap.size w w15)); clear HO_3; clear HB; have HO_3 := n0_; have HB := n1_; clear n0_ n1_; clear hg hw hp_))
                  go_roundg k1
                  case measure => have := HK1.out; omega
                  case rel => exact ⟨(y168), (wrap64 (x4_1 + 1)), (by first | rfl | (simp; done) | (simp [*]; done)), H', ⟨by have := HK1.out; omega⟩, ⟨by (with_reducible repeat (first | apply Kd.R_alloc | apply Kd.R_drewN | apply Kd.R_drew)); exact HO_3.out⟩, ⟨by repeat (first | (with_reducible first | exact HB.out | apply below_alloc | apply pw_below_drewN | apply below_drew1) | exact HB.out)⟩⟩
                · rw [if_neg c10] at H
                  exact absurd H (by simp)
              · rw [if_neg c9] at H
                exact absurd H (by simp)
            · rw [if_neg c7] at H
              have c7b0 : decide ((wrap64 (rd l0 x4_1)) < 0) = false := decide_eq_false c7
              clear c7
              replace H := Option.bind_eq_some_iff.mp H
              obtain ⟨t169, A160, H⟩ := H
              replace H : (if 0 ≤ t169 then (if t169 < (x3_1.length : Int) then (psalteryref15_Energies.l0 k1 l0 (x3_1.set (t169 : Int).toNat (IntKind.u64.wrap ((rd x3_1 t169) + (IntKind.u64.wrap (wrap64 ((wrap64 (Int.tdiv (wrap64 (rd l0 x4_1)) 8)) * (wrap64 (Int.tdiv (wrap64 (rd l0 x4_1)) 8)))))))) (wrap64 (x4_1 + 1))) else (none)) else (none)) = some r := H
              have A16 := Aside0.mk A160
              clear A160
              by_cases c17 : 0 ≤ t169
              · rw [if_pos c17] at H
                have c17b0 : decide (0 ≤ t169) = true := decide_eq_true c17
                clear c17
                by_cases c18 : t169 < (x3_1.length : Int)
                · rw [if_pos c18] at H
                  have c18b0 : decide (t169 < (x3_1.length : Int)) = true := decide_eq_true c18
                  clear c18
                  obtain ⟨y171, hy171⟩ : ∃ y_ : List Int, y_ = (x3_1.set (t169 : Int).toNat (IntKind.u64.wrap ((rd x3_1 t169) + (IntKind.u64.wrap (wrap64 ((wrap64 (Int.tdiv (wrap64 (rd l0 x4_1)) 8)) * (wrap64 (Int.tdiv (wrap64 (rd l0 x4_1)) 8)))))))) := ⟨_, rfl⟩
                  replace H : (psalteryref15_Energies.l0 k1 l0 y171 (wrap64 (x4_1 + 1))) = some r := by first | (rw [hy171]; with_reducible exact H) | (have H2_ := (Option.bind_some _ _).symm.trans H; rw [hy171]; with_reducible exact H2_) | (have H2_ := (Option.bind_some _ _).symm.trans H; with_reducible exact H2_) | with_reducible exact H | (rw [hy171]; exact H) | exact H
                  have Ny171 := Aside0.mk hy171
                  clear hy171
                  have H' := Aside0.mk H
                  clear H
                  have p165 : 0 ≤ (x4_1 : Int) := of_decide_eq_true (by first | (with_reducible assumption) | assumption)
                  have q165 : x4_1 < (l0.length : Int) := of_decide_eq_true (by first | (with_reducible assumption) | assumption)
                  obtain ⟨ad165, e165, hx165_0⟩ := Kd.at_int HR0.out x4_1 p165 q165
                  cases e165
                  replace hx165_0 := (HB.out.cell (World.block_lt_of_cell? w _ hx165_0)).trans hx165_0
                  replace p165 := eq_true p165
                  replace q165 := eq_true q165
                  go_wp2_with (first | ((with_reducible refine gate_callee (f := 60) rfl ?_); refine goesL_ (some 28) rfl rfl Try.func60 (by kernel_rfl) rfl #[.int .i64 (l0.length : Int), .int .i64 x4_1] rfl (by (try simp only [List.map_toArray, List.map_cons, List.map_nil]); first | done | rfl | (simp only [List.length_drop, List.length_take]; rfl)) ?_; (with_reducible refine (psalteryref15_Band.calls k1 (l0.length : Int) x4_1 t169 _ A16.out).mono ?_); rintro e w20 ⟨rfl, hb⟩; refine ⟨_, rfl, ?_⟩; have n0_ := Aside0.mk (Kd.R_below (by (with_reducible repeat (first | apply Kd.R_alloc | apply Kd.R_drewN | apply Kd.R_drew)); exact HO_3.out) hb); have n1_ := Aside0.mk (below_step (by repeat (first | (with_reducible first | exact HB.out | apply below_alloc | apply pw_below_drewN | apply below_drew1) | exact HB.out)) hb); clear HO_3; clear HB; have HO_3 := n0_; have HB := n1_; clear n0_ n1_; (try clear hb); (try clear hb2); (try clear hk); (try clear hi); obtain ⟨Ao21, co21, eo21⟩ := Kd.R_slice HO_3.out; subst eo21; have p170 : 0 ≤ (t169 : Int) := of_decide_eq_true (by first | (with_reducible assumption) | assumption); have q170 : t169 < (x3_1.length : Int) := of_decide_eq_true (by first | (with_reducible assumption) | assumption); obtain ⟨ad170, e170, hx170_0⟩ := Kd.at_int (Kd.R_reads' HO_3.out).2.2 t169 p170 q170; cases e170; replace p170 := eq_true p170; replace q170 := eq_true q170; have p19 : 0 ≤ (t169 : Int) := of_decide_eq_true (by first | (with_reducible assumption) | assumption); have q19 : (t169 : Int) < ((x3_1.length : Int) : Int) := of_decide_eq_true (by first | (with_reducible assumption) | assumption); obtain ⟨go19, co19, eo19, gb19, gl19, cl19, HG19⟩ := Kd.R_form HO_3.out (by omega); (first | cases eo19 | (injection eo19 with ea_ en_ ec_; (first | subst ea_ | (injection ea_ with ea_; subst ea_)); subst ec_; clear en_)); have GB19 := Aside0.mk gb19; have GG19 := Aside0.mk HG19; clear gb19 gl19 HG19; (first | simp only [add_plain] at hx170_0 | skip); obtain ⟨hx19_0, hf19_0⟩ := Kd.R_celln 0 HO_3.out (t169 : Int) p19 q19; replace p19 := eq_true p19; replace q19 := eq_true q19; obtain ⟨hy22_, hz22_⟩ := Kd.R_celln 0 HO_3.out (t169 : Int) (of_decide_eq_true (by first | (with_reducible assumption) | assumption)) (of_decide_eq_true (by first | (with_reducible assumption) | assumption)); have HP22 := Kd.R_putg HO_3.out (t169 : Int) (IntKind.u64.wrap ((rd x3_1 t169) + (IntKind.u64.wrap (wrap64 ((wrap64 (Int.tdiv (wrap64 (rd l0 x4_1)) 8)) * (wrap64 (Int.tdiv (wrap64 (rd l0 x4_1)) 8)))))))) | ((with_reducible refine gate_store (t := 66) (p := 40) rfl ?_); refine store_event (t := 66) (p := 40) (v := ?vo_w23) (w1 := (w20.setCell ⟨go19, (t169 : Int).toNat, none⟩ (.int .u64 (IntKind.u64.wrap ((rd x3_1 t169) + (IntKind.u64.wrap (wrap64 ((wrap64 (Int.tdiv (wrap64 (rd l0 x4_1)) 8)) * (wrap64 (Int.tdiv (wrap64 (rd l0 x4_1)) 8)))))))))) ?hg ?ho ?hn ?hr ?_; (case ho => rfl); (case hg => rfl); (case hn => rfl); (case hr => first | (go_simp; done) | (go_simp; rfl)); intro w23 hw; have hg : w20.grownBy w23 (some go19) := (by rw [hw]; exact HP22.2); have hp_ : Kd.R (Kd.int .u64) 66 w23 w.heap.size (fun _ => True) (.slice (some ⟨go19, 0, none⟩) x3_1.length co21) y171 := (by rw [hw, Ny171.out]; exact HP22.1); clear HP22; have n0_ := Aside0.mk (hp_); have n1_ := Aside0.mk ((by rw [hw]; exact below_set (HB.out) GB19.out : Below w.heap.size w w23)); clear HO_3; clear HB; have HO_3 := n0_; have HB := n1_; clear n0_ n1_; clear hg hw hp_))
                  go_roundg k1
                  case measure => have := HK1.out; omega
                  case rel => exact ⟨(y171), (wrap64 (x4_1 + 1)), (by first | rfl | (simp; done) | (simp [*]; done)), H', ⟨by have := HK1.out; omega⟩, ⟨by (with_reducible repeat (first | apply Kd.R_alloc | apply Kd.R_drewN | apply Kd.R_drew)); exact HO_3.out⟩, ⟨by repeat (first | (with_reducible first | exact HB.out | apply below_alloc | apply pw_below_drewN | apply below_drew1) | exact HB.out)⟩⟩
                · rw [if_neg c18] at H
                  exact absurd H (by simp)
              · rw [if_neg c17] at H
                exact absurd H (by simp)
          · rw [if_neg c6] at H
            exact absurd H (by simp)
        · rw [if_neg c5] at H
          have c5b0 : decide (x4_1 < (l0.length : Int)) = false := decide_eq_false c5
          clear c5
          obtain rfl := Option.some.inj H
          go_wp2
          go_ret
          exact ⟨_, by first | rfl | (simp [errW_none, errW_some] <;> rfl) | (simp [*, errW_none, errW_some] <;> rfl), by (with_reducible repeat (first | apply Kd.R_alloc | apply Kd.R_drewN | apply Kd.R_drew)); exact HO_3.out, by repeat (first | (with_reducible first | exact HB.out | apply below_alloc | apply pw_below_drewN | apply below_drew1) | exact HB.out)⟩
  · rw [if_neg c2] at H
    exact absurd H (by simp)

end Go.Proofs.Ytgmgdbcfgbgnlaa.PBand
