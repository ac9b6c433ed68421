/- Contracts of the functions that the law Mixer reaches: each Go function as a Lean function, and that the Go text comes to it. Written by programs (wip/tools), out of the program's own loaded form. -/
import Derived.Test.YtnaeondfkkiimaaClo
import Derived.Test.YtnaeondfkkiimaaPMixerx0
import Derived.Test.YtnaeondfkkiimaaPMixerx1
import Derived.Test.YtnaeondfkkiimaaPMixerx2
namespace Go.Proofs.Ytnaeondfkkiimaa.PMixer
open Go.RowKit Go.Proofs.YtnaeondfkkiimaaW.PrintWords Go.Proofs.YtnaeondfkkiimaaW.PrintLast Go.Proofs.YtnaeondfkkiimaaW.PrintMore
attribute [local go_sem] max2_int min2_int max_two min_two max_three min_three max_four min_four   -- for this text's walks alone
set_option linter.unusedVariables false
set_option linter.unusedSimpArgs false

/-! ### psalterylaw33_MixerPlain: function 10 -/
mutual
def psalterylaw33_MixerPlain.j0 : Nat → List Int → List Int → Int → Int → Int → Int → Bool → Option (Bool)
  | 0, _, _, _, _, _, _, _ => none
  | k + 1, x0, x1, x2, x3, x4, x5, x35 => if x35 = true then (some true) else ((mixer_Resample.f k x0 (wrap64 (1 + (Int.tmod (wrap64 (x3)) 64))) (wrap64 (1 + (Int.tmod (wrap64 (x3)) 64)))).bind fun bt235 => (if bt235.2 = 0 then ((psalteryref04_Same.f k bt235.1 x0).bind fun t239 => (psalterylaw33_MixerPlain.j1 k x0 x1 x2 x4 x5 (!t239))) else (psalterylaw33_MixerPlain.j1 k x0 x1 x2 x4 x5 true)))
def psalterylaw33_MixerPlain.j1 : Nat → List Int → List Int → Int → Int → Int → Bool → Option (Bool)
  | 0, _, _, _, _, _, _ => none
  | k + 1, x0, x1, x2, x4, x5, x54 => if x54 = true then (some false) else ((mixer_Mix.f k x0 x1 x2 0).bind fun t240 => ((mixer_Mix.f k x0 ([] : List Int) x2 5).bind fun t243 => ((psalteryref04_Same.f k t240 t243).bind fun t246 => (if t246 = true then ((mixer_Resample.f k x0 (wrap64 (1 + (Int.tmod (wrap64 (x4)) 64))) (wrap64 (1 + (Int.tmod (wrap64 (x5)) 64)))).bind fun bt247 => (if bt247.2 = 0 then (if (wrap64 (1 + (Int.tmod (wrap64 (x5)) 64))) = 0 then (none) else (psalterylaw33_MixerPlain.j2 k x0 bt247.1 ((bt247.1.length : Int) != (wrap64 (Int.tdiv (wrap64 ((x0.length : Int) * (wrap64 (1 + (Int.tmod (wrap64 (x4)) 64))))) (wrap64 (1 + (Int.tmod (wrap64 (x5)) 64)))))))) else (psalterylaw33_MixerPlain.j2 k x0 bt247.1 true))) else (some false)))))
def psalterylaw33_MixerPlain.j2 : Nat → List Int → List Int → Bool → Option (Bool)
  | 0, _, _, _ => none
  | k + 1, x0, x18, x91 => if x91 = true then (some false) else (psalterylaw33_MixerPlain.l0 k x0 x18 0 0 0)
def psalterylaw33_MixerPlain.l0 : Nat → List Int → List Int → Int → Int → Int → Option (Bool)
  | 0, _, _, _, _, _ => none
  | k + 1, x0, x18, x20, x21, x22 => if x22 < (x0.length : Int) then (if 0 ≤ x22 then (psalterylaw33_MixerPlain.l0 k x0 x18 (mn x20 (rd x0 x22)) (mx x21 (rd x0 x22)) (wrap64 (x22 + 1))) else (none)) else (psalterylaw33_MixerPlain.l1 k x18 x20 x21 0)
def psalterylaw33_MixerPlain.l1 : Nat → List Int → Int → Int → Int → Option (Bool)
  | 0, _, _, _, _ => none
  | k + 1, x18, x20, x21, x23 => if x23 < (x18.length : Int) then (if 0 ≤ x23 then (if (rd x18 x23) < x20 then (some false) else (if (rd x18 x23) > x21 then (some false) else (psalterylaw33_MixerPlain.l1 k x18 x20 x21 (wrap64 (x23 + 1))))) else (none)) else (some true)
end
def psalterylaw33_MixerPlain.f (k : Nat) (l0 : List Int) (l1 : List Int) (a2 : Int) (a3 : Int) (a4 : Int) (a5 : Int) : Option (Bool) := (psalterylaw33_alive.f k).bind fun t234 => (if t234 = true then (if (l0.length : Int) > 300 then (psalterylaw33_MixerPlain.j0 k l0 l1 a2 a3 a4 a5 true) else (psalterylaw33_MixerPlain.j0 k l0 l1 a2 a3 a4 a5 (decide ((l1.length : Int) > (l0.length : Int))))) else (some false))
theorem psalterylaw33_MixerPlain.mono_l : ∀ k, (∀ y0 y1 y2 y3 y4 y5 y6, LeO (psalterylaw33_MixerPlain.j0 k y0 y1 y2 y3 y4 y5 y6) (psalterylaw33_MixerPlain.j0 (k + 1) y0 y1 y2 y3 y4 y5 y6)) ∧ (∀ y0 y1 y2 y3 y4 y5, LeO (psalterylaw33_MixerPlain.j1 k y0 y1 y2 y3 y4 y5) (psalterylaw33_MixerPlain.j1 (k + 1) y0 y1 y2 y3 y4 y5)) ∧ (∀ y0 y1 y2, LeO (psalterylaw33_MixerPlain.j2 k y0 y1 y2) (psalterylaw33_MixerPlain.j2 (k + 1) y0 y1 y2)) ∧ (∀ y0 y1 y2 y3 y4, LeO (psalterylaw33_MixerPlain.l0 k y0 y1 y2 y3 y4) (psalterylaw33_MixerPlain.l0 (k + 1) y0 y1 y2 y3 y4)) ∧ (∀ y0 y1 y2 y3, LeO (psalterylaw33_MixerPlain.l1 k y0 y1 y2 y3) (psalterylaw33_MixerPlain.l1 (k + 1) y0 y1 y2 y3))
  | 0 => ⟨fun _ _ _ _ _ _ _ r h => by simp [psalterylaw33_MixerPlain.j0] at h, fun _ _ _ _ _ _ r h => by simp [psalterylaw33_MixerPlain.j1] at h, fun _ _ _ r h => by simp [psalterylaw33_MixerPlain.j2] at h, fun _ _ _ _ _ r h => by simp [psalterylaw33_MixerPlain.l0] at h, fun _ _ _ _ r h => by simp [psalterylaw33_MixerPlain.l1] at h⟩
  | k + 1 => by
    obtain ⟨ih0, ih1, ih2, ih3, ih4⟩ := psalterylaw33_MixerPlain.mono_l k
    refine ⟨?_, ?_, ?_, ?_, ?_⟩
    · intro y0 y1 y2 y3 y4 y5 y6
      unfold psalterylaw33_MixerPlain.j0
      repeat' first
      | (with_reducible exact ih0 _ _ _ _ _ _ _)
      | (with_reducible exact ih1 _ _ _ _ _ _)
      | (with_reducible exact ih2 _ _ _)
      | (with_reducible exact ih3 _ _ _ _ _)
      | (with_reducible exact ih4 _ _ _ _)
      | (with_reducible exact mixer_Mix.mono _ _ _ _ _)
      | (with_reducible exact mixer_Resample.mono _ _ _ _)
      | (with_reducible exact psalterylaw33_alive.mono _)
      | (with_reducible exact psalteryref04_Same.mono _ _ _)
      | (with_reducible exact LeO.refl _)
      | (with_reducible exact LeO.none _)
      | (with_reducible refine LeO.ite ?_ ?_)
      | (with_reducible refine LeO.bind ?_ (fun _ => ?_))
      | exact ih0 _ _ _ _ _ _ _
      | exact ih1 _ _ _ _ _ _
      | exact ih2 _ _ _
      | exact ih3 _ _ _ _ _
      | exact ih4 _ _ _ _
      | exact mixer_Mix.mono _ _ _ _ _
      | exact mixer_Resample.mono _ _ _ _
      | exact psalterylaw33_alive.mono _
      | exact psalteryref04_Same.mono _ _ _
      | exact LeO.none _
      | refine LeO.ite ?_ ?_
      | refine LeO.bind ?_ (fun _ => ?_)
    · intro y0 y1 y2 y3 y4 y5
      unfold psalterylaw33_MixerPlain.j1
      repeat' first
      | (with_reducible exact ih0 _ _ _ _ _ _ _)
      | (with_reducible exact ih1 _ _ _ _ _ _)
      | (with_reducible exact ih2 _ _ _)
      | (with_reducible exact ih3 _ _ _ _ _)
      | (with_reducible exact ih4 _ _ _ _)
      | (with_reducible exact mixer_Mix.mono _ _ _ _ _)
      | (with_reducible exact mixer_Resample.mono _ _ _ _)
      | (with_reducible exact psalterylaw33_alive.mono _)
      | (with_reducible exact psalteryref04_Same.mono _ _ _)
      | (with_reducible exact LeO.refl _)
      | (with_reducible exact LeO.none _)
      | (with_reducible refine LeO.ite ?_ ?_)
      | (with_reducible refine LeO.bind ?_ (fun _ => ?_))
      | exact ih0 _ _ _ _ _ _ _
      | exact ih1 _ _ _ _ _ _
      | exact ih2 _ _ _
      | exact ih3 _ _ _ _ _
      | exact ih4 _ _ _ _
      | exact mixer_Mix.mono _ _ _ _ _
      | exact mixer_Resample.mono _ _ _ _
      | exact psalterylaw33_alive.mono _
      | exact psalteryref04_Same.mono _ _ _
      | exact LeO.none _
      | refine LeO.ite ?_ ?_
      | refine LeO.bind ?_ (fun _ => ?_)
    · intro y0 y1 y2
      unfold psalterylaw33_MixerPlain.j2
      repeat' first
      | (with_reducible exact ih0 _ _ _ _ _ _ _)
      | (with_reducible exact ih1 _ _ _ _ _ _)
      | (with_reducible exact ih2 _ _ _)
      | (with_reducible exact ih3 _ _ _ _ _)
      | (with_reducible exact ih4 _ _ _ _)
      | (with_reducible exact mixer_Mix.mono _ _ _ _ _)
      | (with_reducible exact mixer_Resample.mono _ _ _ _)
      | (with_reducible exact psalterylaw33_alive.mono _)
      | (with_reducible exact psalteryref04_Same.mono _ _ _)
      | (with_reducible exact LeO.refl _)
      | (with_reducible exact LeO.none _)
      | (with_reducible refine LeO.ite ?_ ?_)
      | (with_reducible refine LeO.bind ?_ (fun _ => ?_))
      | exact ih0 _ _ _ _ _ _ _
      | exact ih1 _ _ _ _ _ _
      | exact ih2 _ _ _
      | exact ih3 _ _ _ _ _
      | exact ih4 _ _ _ _
      | exact mixer_Mix.mono _ _ _ _ _
      | exact mixer_Resample.mono _ _ _ _
      | exact psalterylaw33_alive.mono _
      | exact psalteryref04_Same.mono _ _ _
      | exact LeO.none _
      | refine LeO.ite ?_ ?_
      | refine LeO.bind ?_ (fun _ => ?_)
    · intro y0 y1 y2 y3 y4
      unfold psalterylaw33_MixerPlain.l0
      repeat' first
      | (with_reducible exact ih0 _ _ _ _ _ _ _)
      | (with_reducible exact ih1 _ _ _ _ _ _)
      | (with_reducible exact ih2 _ _ _)
      | (with_reducible exact ih3 _ _ _ _ _)
      | (with_reducible exact ih4 _ _ _ _)
      | (with_reducible exact mixer_Mix.mono _ _ _ _ _)
      | (with_reducible exact mixer_Resample.mono _ _ _ _)
      | (with_reducible exact psalterylaw33_alive.mono _)
      | (with_reducible exact psalteryref04_Same.mono _ _ _)
      | (with_reducible exact LeO.refl _)
      | (with_reducible exact LeO.none _)
      | (with_reducible refine LeO.ite ?_ ?_)
      | (with_reducible refine LeO.bind ?_ (fun _ => ?_))
      | exact ih0 _ _ _ _ _ _ _
      | exact ih1 _ _ _ _ _ _
      | exact ih2 _ _ _
      | exact ih3 _ _ _ _ _
      | exact ih4 _ _ _ _
      | exact mixer_Mix.mono _ _ _ _ _
      | exact mixer_Resample.mono _ _ _ _
      | exact psalterylaw33_alive.mono _
      | exact psalteryref04_Same.mono _ _ _
      | exact LeO.none _
      | refine LeO.ite ?_ ?_
      | refine LeO.bind ?_ (fun _ => ?_)
    · intro y0 y1 y2 y3
      unfold psalterylaw33_MixerPlain.l1
      repeat' first
      | (with_reducible exact ih0 _ _ _ _ _ _ _)
      | (with_reducible exact ih1 _ _ _ _ _ _)
      | (with_reducible exact ih2 _ _ _)
      | (with_reducible exact ih3 _ _ _ _ _)
      | (with_reducible exact ih4 _ _ _ _)
      | (with_reducible exact mixer_Mix.mono _ _ _ _ _)
      | (with_reducible exact mixer_Resample.mono _ _ _ _)
      | (with_reducible exact psalterylaw33_alive.mono _)
      | (with_reducible exact psalteryref04_Same.mono _ _ _)
      | (with_reducible exact LeO.refl _)
      | (with_reducible exact LeO.none _)
      | (with_reducible refine LeO.ite ?_ ?_)
      | (with_reducible refine LeO.bind ?_ (fun _ => ?_))
      | exact ih0 _ _ _ _ _ _ _
      | exact ih1 _ _ _ _ _ _
      | exact ih2 _ _ _
      | exact ih3 _ _ _ _ _
      | exact ih4 _ _ _ _
      | exact mixer_Mix.mono _ _ _ _ _
      | exact mixer_Resample.mono _ _ _ _
      | exact psalterylaw33_alive.mono _
      | exact psalteryref04_Same.mono _ _ _
      | exact LeO.none _
      | refine LeO.ite ?_ ?_
      | refine LeO.bind ?_ (fun _ => ?_)
theorem psalterylaw33_MixerPlain.mono : ∀ a0 a1 a2 a3 a4 a5 k, LeO (psalterylaw33_MixerPlain.f k a0 a1 a2 a3 a4 a5) (psalterylaw33_MixerPlain.f (k + 1) a0 a1 a2 a3 a4 a5) := by
  intro a0 a1 a2 a3 a4 a5 k
  obtain ⟨ih0, ih1, ih2, ih3, ih4⟩ := psalterylaw33_MixerPlain.mono_l k
  unfold psalterylaw33_MixerPlain.f
  repeat' first
      | (with_reducible exact ih0 _ _ _ _ _ _ _)
      | (with_reducible exact ih1 _ _ _ _ _ _)
      | (with_reducible exact ih2 _ _ _)
      | (with_reducible exact ih3 _ _ _ _ _)
      | (with_reducible exact ih4 _ _ _ _)
      | (with_reducible exact mixer_Mix.mono _ _ _ _ _)
      | (with_reducible exact mixer_Resample.mono _ _ _ _)
      | (with_reducible exact psalterylaw33_alive.mono _)
      | (with_reducible exact psalteryref04_Same.mono _ _ _)
      | (with_reducible exact LeO.refl _)
      | (with_reducible exact LeO.none _)
      | (with_reducible refine LeO.ite ?_ ?_)
      | (with_reducible refine LeO.bind ?_ (fun _ => ?_))
      | exact ih0 _ _ _ _ _ _ _
      | exact ih1 _ _ _ _ _ _
      | exact ih2 _ _ _
      | exact ih3 _ _ _ _ _
      | exact ih4 _ _ _ _
      | exact mixer_Mix.mono _ _ _ _ _
      | exact mixer_Resample.mono _ _ _ _
      | exact psalterylaw33_alive.mono _
      | exact psalteryref04_Same.mono _ _ _
      | exact LeO.none _
      | refine LeO.ite ?_ ?_
      | refine LeO.bind ?_ (fun _ => ?_)
set_option maxHeartbeats 8000000 in
set_option maxRecDepth 100000 in
theorem psalterylaw33_MixerPlain.calls (k : Nat) (A0 : Option Addr) (c0 : Nat) (l0 : List Int) (A1 : Option Addr) (c1 : Nat) (l1 : List Int) (a2 : Int) (a3 : Int) (a4 : Int) (a5 : Int) (r : Bool) (w : World) (hr0 : Kd.C (Kd.int .i16) w A0 l0.length l0) (hc0 : l0.length ≤ c0) (hr1 : Kd.C (Kd.int .i16) w A1 l1.length l1) (hc1 : l1.length ≤ c1) (h : psalterylaw33_MixerPlain.f k l0 l1 a2 a3 a4 a5 = some r) :
    Calls Try.prog 10 #[.slice A0 l0.length c0, .slice A1 l1.length c1, .int .i16 a2, .int .u8 a3, .int .u8 a4, .int .u8 a5] w fun e w' => e = .returned (.bool r) ∧ Below w.heap.size w w' := by
  have HR0 := Aside0.mk hr0
  have HC0 := Aside0.mk hc0
  clear hr0 hc0
  have HR1 := Aside0.mk hr1
  have HC1 := Aside0.mk hc1
  clear hr1 hc1
  have HB := Aside0.mk (Below.refl w.heap.size w)
  have H : ((psalterylaw33_alive.f k).bind fun t234 => (if t234 = true then (if (l0.length : Int) > 300 then (psalterylaw33_MixerPlain.j0 k l0 l1 a2 a3 a4 a5 true) else (psalterylaw33_MixerPlain.j0 k l0 l1 a2 a3 a4 a5 (decide ((l1.length : Int) > (l0.length : Int))))) else (some false))) = some r := h
  clear h
  replace H := Option.bind_eq_some_iff.mp H
  obtain ⟨t234, A70, H⟩ := H
  replace H : (if t234 = true then (if (l0.length : Int) > 300 then (psalterylaw33_MixerPlain.j0 k l0 l1 a2 a3 a4 a5 true) else (psalterylaw33_MixerPlain.j0 k l0 l1 a2 a3 a4 a5 (decide ((l1.length : Int) > (l0.length : Int))))) else (some false)) = some r := H
  have A7 := Aside0.mk A70
  clear A70
  by_cases c8 : t234 = true
  · subst c8
    have H1 : (if (l0.length : Int) > 300 then (psalterylaw33_MixerPlain.j0 k l0 l1 a2 a3 a4 a5 true) else (psalterylaw33_MixerPlain.j0 k l0 l1 a2 a3 a4 a5 (decide ((l1.length : Int) > (l0.length : Int))))) = some r := by rw [if_pos rfl] at H; exact H
    clear H
    have H := H1
    clear H1
    have HC9 := Aside0.mk H
    clear H
    go_enter Try.func10, Try.ntmps10
    go_upto_region 3 with (first | ((with_reducible refine gate_callee (f := 15) rfl ?_); refine goesL_ (some 24) rfl rfl Try.func15 (by kernel_rfl) rfl #[] rfl (by (try simp only [List.map_toArray, List.map_cons, List.map_nil]); first | done | rfl | (simp only [List.length_drop, List.length_take]; rfl)) ?_; (with_reducible refine (psalterylaw33_alive.calls k  true _ A7.out).mono ?_); rintro e w10 ⟨rfl, hb⟩; refine ⟨_, rfl, ?_⟩; have n0_ := Aside0.mk (below_step (by repeat (first | (with_reducible first | exact HB.out | apply below_alloc | apply pw_below_drewN | apply below_drew1) | exact HB.out)) hb); clear HB; have HB := n0_; clear n0_; (try clear hb); (try clear hb2); (try clear hk); (try clear hi)))
    (try simp only [Act.put, List.setIfInBounds_toArray, List.set_cons_zero, List.set_cons_succ])
    go_cut [35] (fun v35 wc => ∃ (kq : Nat) (x35_8 : Bool), v35 = .bool x35_8 ∧ Aside0 (psalterylaw33_MixerPlain.j0 kq l0 l1 a2 a3 a4 a5 x35_8 = some r) ∧ Aside0 (kq ≤ k) ∧ Aside0 (Below w.heap.size w wc))
    case first =>
      have H := HC9.out
      clear HC9
      by_cases c11 : (l0.length : Int) > 300
      · rw [if_pos c11] at H
        have c11b0 : decide (300 < (l0.length : Int)) = true := decide_eq_true c11
        have c11b1 : decide (300 < l0.length) = true := decide_eq_true (by omega)
        clear c11
        (first | rw [c11b0] | (simp only [i64_w, i32_w]; rw [c11b0]) | skip)
        have H' := Aside0.mk H
        clear H
        go_wp2
        go_meet
        case rel => exact ⟨_, (true), (by first | rfl | (simp; done) | (simp [*]; done)), H', ⟨by first | omega | exact Nat.le_refl _⟩, ⟨by repeat (first | (with_reducible first | exact HB.out | apply below_alloc | apply pw_below_drewN | apply below_drew1) | exact HB.out)⟩⟩
      · rw [if_neg c11] at H
        have c11b0 : decide (300 < (l0.length : Int)) = false := decide_eq_false c11
        have c11b1 : decide (300 < l0.length) = false := decide_eq_false (by omega)
        clear c11
        (first | rw [c11b0] | (simp only [i64_w, i32_w]; rw [c11b0]) | skip)
        have H' := Aside0.mk H
        clear H
        go_wp2
        go_meet
        case rel => exact ⟨_, (decide ((l1.length : Int) > (l0.length : Int))), (by first | rfl | (simp; done) | (simp [*]; done)), H', ⟨by first | omega | exact Nat.le_refl _⟩, ⟨by repeat (first | (with_reducible first | exact HB.out | apply below_alloc | apply pw_below_drewN | apply below_drew1) | exact HB.out)⟩⟩
    case rest =>
      clear HC9
      try clear c1
      try clear p2
      try clear c8
      try clear c10
      try clear c11
      try clear c11b0
      try clear c11b1
      obtain ⟨kq, x35_8, rfl, HA, HJ8, HB⟩ := hcut
      cases kq with
      | zero => exact absurd HA.out (by simp [psalterylaw33_MixerPlain.j0])
      | succ kj8 =>
        have H := HA.out
        clear HA
        simp only [psalterylaw33_MixerPlain.j0] at H
        by_cases c12 : x35_8 = true
        · subst c12
          have H1 : (some true) = some r := by rw [if_pos rfl] at H; exact H
          clear H
          have H := H1
          clear H1
          obtain rfl := Option.some.inj H
          go_wp2
          go_ret
          exact ⟨by first | rfl | (simp [errW_none, errW_some] <;> rfl) | (simp [*, errW_none, errW_some] <;> rfl), by repeat (first | (with_reducible first | exact HB.out | apply below_alloc | apply pw_below_drewN | apply below_drew1) | exact HB.out)⟩
        · replace c12 := Bool.eq_false_iff.mpr c12
          subst c12
          have H1 : ((mixer_Resample.f kj8 l0 (wrap64 (1 + (Int.tmod (wrap64 (a3)) 64))) (wrap64 (1 + (Int.tmod (wrap64 (a3)) 64)))).bind fun bt235 => (if bt235.2 = 0 then ((psalteryref04_Same.f kj8 bt235.1 l0).bind fun t239 => (psalterylaw33_MixerPlain.j1 kj8 l0 l1 a2 a4 a5 (!t239))) else (psalterylaw33_MixerPlain.j1 kj8 l0 l1 a2 a4 a5 true))) = some r := by rw [if_neg (show ¬ (false = true) by decide)] at H; exact H
          clear H
          have H := H1
          clear H1
          replace H := Option.bind_eq_some_iff.mp H
          obtain ⟨⟨t235, t236⟩, A130, H⟩ := H
          replace H : (if t236 = 0 then ((psalteryref04_Same.f kj8 t235 l0).bind fun t239 => (psalterylaw33_MixerPlain.j1 kj8 l0 l1 a2 a4 a5 (!t239))) else (psalterylaw33_MixerPlain.j1 kj8 l0 l1 a2 a4 a5 true)) = some r := H
          have A13 := Aside0.mk A130
          clear A130
          have HC14 := Aside0.mk H
          clear H
          go_upto_region 7 with (first | ((with_reducible refine gate_callee (f := 16) rfl ?_); refine goesL_ (some 44) rfl rfl Try.func16 (by kernel_rfl) rfl #[.slice A0 l0.length c0, .int .i64 (wrap64 (1 + (Int.tmod (wrap64 (a3)) 64))), .int .i64 (wrap64 (1 + (Int.tmod (wrap64 (a3)) 64)))] rfl (by (try simp only [List.map_toArray, List.map_cons, List.map_nil]); first | done | rfl | (simp only [List.length_drop, List.length_take]; rfl)) ?_; (with_reducible refine (mixer_Resample.calls kj8 _ _ l0 (wrap64 (1 + (Int.tmod (wrap64 (a3)) 64))) (wrap64 (1 + (Int.tmod (wrap64 (a3)) 64))) t235 t236 _ ?side1 ?side2 A13.out).mono ?_); (case side1 => repeat (first | exact (Kd.C_below HR0.out HB.out) | (with_reducible refine Kd.C_alloc ?_ _) | (with_reducible refine Kd.C_drewN ?_ _) | (with_reducible refine Kd.C_drew ?_))); (case side2 => exact HC0.out); rintro e w15 ⟨v237, rfl, ho0, hb⟩; refine ⟨_, rfl, ?_⟩; have n0_ := Aside0.mk (Kd.R_lower ho0 (below_size (by repeat (first | (with_reducible first | exact HB.out | apply below_alloc | apply pw_below_drewN | apply below_drew1) | exact HB.out)))); have n1_ := Aside0.mk (below_step (by repeat (first | (with_reducible first | exact HB.out | apply below_alloc | apply pw_below_drewN | apply below_drew1) | exact HB.out)) hb); clear HB; have HO238 := n0_; have HB := n1_; clear n0_ n1_; (try clear hb); (try clear hb2); (try clear hk); (try clear hi); (try clear ho0)))
          (try simp only [Act.put, List.setIfInBounds_toArray, List.set_cons_zero, List.set_cons_succ])
          go_cut [54] (fun v54 wc => ∃ (kq : Nat) (x54_13 : Bool), v54 = .bool x54_13 ∧ Aside0 (psalterylaw33_MixerPlain.j1 kq l0 l1 a2 a4 a5 x54_13 = some r) ∧ Aside0 (kq ≤ kj8) ∧ Aside0 (Below w.heap.size w wc))
          case first =>
            have H := HC14.out
            clear HC14
            by_cases c16 : t236 = 0
            · rw [if_pos c16] at H
              have c16b0 : (t236 == 0) = true := beq_iff_eq.mpr c16
              have c16b1 : (t236 != 0) = false := bne_eq_false_iff_eq.mpr c16
              clear c16
              (first | rw [c16b0] | (simp only [i64_w, i32_w]; rw [c16b0]) | skip)
              replace H := Option.bind_eq_some_iff.mp H
              obtain ⟨t239, A170, H⟩ := H
              replace H : (psalterylaw33_MixerPlain.j1 kj8 l0 l1 a2 a4 a5 (!t239)) = some r := H
              have A17 := Aside0.mk A170
              clear A170
              have H' := Aside0.mk H
              clear H
              obtain ⟨Ao18, co18, eo18⟩ := Kd.R_slice HO238.out
              subst eo18
              go_wp2_with (first | (go_at_call 18; (with_reducible refine (psalteryref04_Same.calls kj8 _ _ t235 _ _ l0 t239 _ ?side1 ?side2 ?side3 ?side4 A17.out).mono ?_); (case side1 => repeat (first | exact (Kd.R_reads' HO238.out).2.2 | (with_reducible refine Kd.C_alloc ?_ _) | (with_reducible refine Kd.C_drewN ?_ _) | (with_reducible refine Kd.C_drew ?_))); (case side2 => exact (Kd.R_reads' HO238.out).2.1); (case side3 => repeat (first | exact (Kd.C_below HR0.out HB.out) | (with_reducible refine Kd.C_alloc ?_ _) | (with_reducible refine Kd.C_drewN ?_ _) | (with_reducible refine Kd.C_drew ?_))); (case side4 => exact HC0.out); rintro e w' ⟨rfl, ⟨nd, rfl⟩⟩))
              go_meet
              case rel => exact ⟨_, (!t239), (by first | rfl | (simp; done) | (simp [*]; done)), H', ⟨by have := HJ8.out; first | omega | exact Nat.le_refl _⟩, ⟨by repeat (first | (with_reducible first | exact HB.out | apply below_alloc | apply pw_below_drewN | apply below_drew1) | exact HB.out)⟩⟩
            · rw [if_neg c16] at H
              have c16b0 : (t236 == 0) = false := beq_eq_false_iff_ne.mpr c16
              have c16b1 : (t236 != 0) = true := bne_iff_ne.mpr c16
              (first | rw [c16b0] | (simp only [i64_w, i32_w]; rw [c16b0]) | skip)
              have H' := Aside0.mk H
              clear H
              go_wp2
              go_meet
              case rel => exact ⟨_, (true), (by first | rfl | (simp; done) | (simp [*]; done)), H', ⟨by have := HJ8.out; first | omega | exact Nat.le_refl _⟩, ⟨by repeat (first | (with_reducible first | exact HB.out | apply below_alloc | apply pw_below_drewN | apply below_drew1) | exact HB.out)⟩⟩
          case rest =>
            clear HC14
            try clear c1
            try clear p2
            try clear p6
            try clear c8
            try clear c10
            try clear c11
            try clear c11b0
            try clear c11b1
            try clear c12
            try clear c15
            try clear c16
            try clear c16b0
            try clear c16b1
            try clear p2
            obtain ⟨kq, x54_13, rfl, HA, HJ13, HB⟩ := hcut
            cases kq with
            | zero => exact absurd HA.out (by simp [psalterylaw33_MixerPlain.j1])
            | succ kj13 =>
              have H := HA.out
              clear HA
              simp only [psalterylaw33_MixerPlain.j1] at H
              by_cases c19 : x54_13 = true
              · subst c19
                have H1 : (some false) = some r := by rw [if_pos rfl] at H; exact H
                clear H
                have H := H1
                clear H1
                obtain rfl := Option.some.inj H
                go_wp2
                go_ret
                exact ⟨by first | rfl | (simp [errW_none, errW_some] <;> rfl) | (simp [*, errW_none, errW_some] <;> rfl), by repeat (first | (with_reducible first | exact HB.out | apply below_alloc | apply pw_below_drewN | apply below_drew1) | exact HB.out)⟩
              · replace c19 := Bool.eq_false_iff.mpr c19
                subst c19
                have H1 : ((mixer_Mix.f kj13 l0 l1 a2 0).bind fun t240 => ((mixer_Mix.f kj13 l0 ([] : List Int) a2 5).bind fun t243 => ((psalteryref04_Same.f kj13 t240 t243).bind fun t246 => (if t246 = true then ((mixer_Resample.f kj13 l0 (wrap64 (1 + (Int.tmod (wrap64 (a4)) 64))) (wrap64 (1 + (Int.tmod (wrap64 (a5)) 64)))).bind fun bt247 => (if bt247.2 = 0 then (if (wrap64 (1 + (Int.tmod (wrap64 (a5)) 64))) = 0 then (none) else (psalterylaw33_MixerPlain.j2 kj13 l0 bt247.1 ((bt247.1.length : Int) != (wrap64 (Int.tdiv (wrap64 ((l0.length : Int) * (wrap64 (1 + (Int.tmod (wrap64 (a4)) 64))))) (wrap64 (1 + (Int.tmod (wrap64 (a5)) 64)))))))) else (psalterylaw33_MixerPlain.j2 kj13 l0 bt247.1 true))) else (some false))))) = some r := by rw [if_neg (show ¬ (false = true) by decide)] at H; exact H
                clear H
                have H := H1
                clear H1
                replace H := Option.bind_eq_some_iff.mp H
                obtain ⟨t240, A200, H⟩ := H
                replace H : ((mixer_Mix.f kj13 l0 ([] : List Int) a2 5).bind fun t243 => ((psalteryref04_Same.f kj13 t240 t243).bind fun t246 => (if t246 = true then ((mixer_Resample.f kj13 l0 (wrap64 (1 + (Int.tmod (wrap64 (a4)) 64))) (wrap64 (1 + (Int.tmod (wrap64 (a5)) 64)))).bind fun bt247 => (if bt247.2 = 0 then (if (wrap64 (1 + (Int.tmod (wrap64 (a5)) 64))) = 0 then (none) else (psalterylaw33_MixerPlain.j2 kj13 l0 bt247.1 ((bt247.1.length : Int) != (wrap64 (Int.tdiv (wrap64 ((l0.length : Int) * (wrap64 (1 + (Int.tmod (wrap64 (a4)) 64))))) (wrap64 (1 + (Int.tmod (wrap64 (a5)) 64)))))))) else (psalterylaw33_MixerPlain.j2 kj13 l0 bt247.1 true))) else (some false)))) = some r := H
                have A20 := Aside0.mk A200
                clear A200
                replace H := Option.bind_eq_some_iff.mp H
                obtain ⟨t243, A210, H⟩ := H
                replace H : ((psalteryref04_Same.f kj13 t240 t243).bind fun t246 => (if t246 = true then ((mixer_Resample.f kj13 l0 (wrap64 (1 + (Int.tmod (wrap64 (a4)) 64))) (wrap64 (1 + (Int.tmod (wrap64 (a5)) 64)))).bind fun bt247 => (if bt247.2 = 0 then (if (wrap64 (1 + (Int.tmod (wrap64 (a5)) 64))) = 0 then (none) else (psalterylaw33_MixerPlain.j2 kj13 l0 bt247.1 ((bt247.1.length : Int) != (wrap64 (Int.tdiv (wrap64 ((l0.length : Int) * (wrap64 (1 + (Int.tmod (wrap64 (a4)) 64))))) (wrap64 (1 + (Int.tmod (wrap64 (a5)) 64)))))))) else (psalterylaw33_MixerPlain.j2 kj13 l0 bt247.1 true))) else (some false))) = some r := H
                have A21 := Aside0.mk A210
                clear A210
                replace H := Option.bind_eq_some_iff.mp H
                obtain ⟨t246, A220, H⟩ := H
                replace H : (if t246 = true then ((mixer_Resample.f kj13 l0 (wrap64 (1 + (Int.tmod (wrap64 (a4)) 64))) (wrap64 (1 + (Int.tmod (wrap64 (a5)) 64)))).bind fun bt247 => (if bt247.2 = 0 then (if (wrap64 (1 + (Int.tmod (wrap64 (a5)) 64))) = 0 then (none) else (psalterylaw33_MixerPlain.j2 kj13 l0 bt247.1 ((bt247.1.length : Int) != (wrap64 (Int.tdiv (wrap64 ((l0.length : Int) * (wrap64 (1 + (Int.tmod (wrap64 (a4)) 64))))) (wrap64 (1 + (Int.tmod (wrap64 (a5)) 64)))))))) else (psalterylaw33_MixerPlain.j2 kj13 l0 bt247.1 true))) else (some false)) = some r := H
                have A22 := Aside0.mk A220
                clear A220
                by_cases c23 : t246 = true
                · subst c23
                  have H1 : ((mixer_Resample.f kj13 l0 (wrap64 (1 + (Int.tmod (wrap64 (a4)) 64))) (wrap64 (1 + (Int.tmod (wrap64 (a5)) 64)))).bind fun bt247 => (if bt247.2 = 0 then (if (wrap64 (1 + (Int.tmod (wrap64 (a5)) 64))) = 0 then (none) else (psalterylaw33_MixerPlain.j2 kj13 l0 bt247.1 ((bt247.1.length : Int) != (wrap64 (Int.tdiv (wrap64 ((l0.length : Int) * (wrap64 (1 + (Int.tmod (wrap64 (a4)) 64))))) (wrap64 (1 + (Int.tmod (wrap64 (a5)) 64)))))))) else (psalterylaw33_MixerPlain.j2 kj13 l0 bt247.1 true))) = some r := by rw [if_pos rfl] at H; exact H
                  clear H
                  have H := H1
                  clear H1
                  replace H := Option.bind_eq_some_iff.mp H
                  obtain ⟨⟨t247, t248⟩, A240, H⟩ := H
                  replace H : (if t248 = 0 then (if (wrap64 (1 + (Int.tmod (wrap64 (a5)) 64))) = 0 then (none) else (psalterylaw33_MixerPlain.j2 kj13 l0 t247 ((t247.length : Int) != (wrap64 (Int.tdiv (wrap64 ((l0.length : Int) * (wrap64 (1 + (Int.tmod (wrap64 (a4)) 64))))) (wrap64 (1 + (Int.tmod (wrap64 (a5)) 64)))))))) else (psalterylaw33_MixerPlain.j2 kj13 l0 t247 true)) = some r := H
                  have A24 := Aside0.mk A240
                  clear A240
                  have HC25 := Aside0.mk H
                  clear H
                  go_upto_region 13 with (first | ((with_reducible refine gate_callee (f := 41) rfl ?_); refine goesL_ (some 58) rfl rfl Try.func41 (by kernel_rfl) rfl #[.slice A0 l0.length c0, .slice A1 l1.length c1, .int .i16 a2, .int .i16 0] rfl (by (try simp only [List.map_toArray, List.map_cons, List.map_nil]); first | done | rfl | (simp only [List.length_drop, List.length_take]; rfl)) ?_; (with_reducible refine (mixer_Mix.calls kj13 _ _ l0 _ _ l1 a2 0 t240 _ ?side1 ?side2 ?side3 ?side4 A20.out).mono ?_); (case side1 => repeat (first | exact (Kd.C_below HR0.out HB.out) | (with_reducible refine Kd.C_alloc ?_ _) | (with_reducible refine Kd.C_drewN ?_ _) | (with_reducible refine Kd.C_drew ?_))); (case side2 => exact HC0.out); (case side3 => repeat (first | exact (Kd.C_below HR1.out HB.out) | (with_reducible refine Kd.C_alloc ?_ _) | (with_reducible refine Kd.C_drewN ?_ _) | (with_reducible refine Kd.C_drew ?_))); (case side4 => exact HC1.out); rintro e w26 ⟨v241, rfl, ho0, hb⟩; refine ⟨_, rfl, ?_⟩; have n0_ := Aside0.mk (Kd.R_lower ho0 (below_size (by repeat (first | (with_reducible first | exact HB.out | apply below_alloc | apply pw_below_drewN | apply below_drew1) | exact HB.out)))); have n1_ := Aside0.mk (below_step (by repeat (first | (with_reducible first | exact HB.out | apply below_alloc | apply pw_below_drewN | apply below_drew1) | exact HB.out)) hb); clear HB; have HO242 := n0_; have HB := n1_; clear n0_ n1_; (try clear hb); (try clear hb2); (try clear hk); (try clear hi); (try clear ho0)) | ((with_reducible refine gate_callee (f := 41) rfl ?_); refine goesL_ (some 61) rfl rfl Try.func41 (by kernel_rfl) rfl #[.slice A0 l0.length c0, .slice none 0 0, .int .i16 a2, .int .i16 5] rfl (by (try simp only [List.map_toArray, List.map_cons, List.map_nil]); first | done | rfl | (simp only [List.length_drop, List.length_take]; rfl)) ?_; (refine (mixer_Mix.calls kj13 _ _ l0 _ _ ([] : List Int) a2 5 t243 _ ?side1 ?side2 ?side3 ?side4 A21.out).mono ?_); (case side1 => repeat (first | exact (Kd.C_below HR0.out HB.out) | (with_reducible refine Kd.C_alloc ?_ _) | (with_reducible refine Kd.C_drewN ?_ _) | (with_reducible refine Kd.C_drew ?_))); (case side2 => exact HC0.out); (case side3 => exact Kd.C_nil _ _); (case side4 => exact Nat.le_refl _); rintro e w27 ⟨v244, rfl, ho0, hb⟩; refine ⟨_, rfl, ?_⟩; have n0_ := Aside0.mk (Kd.R_elder' (by (with_reducible repeat (first | apply Kd.R_alloc | apply Kd.R_drewN | apply Kd.R_drew)); exact HO242.out) (Kd.R_base ho0) hb); have n1_ := Aside0.mk (Kd.R_lower (Kd.R_new' ho0 (Kd.R_lt (by (with_reducible repeat (first | apply Kd.R_alloc | apply Kd.R_drewN | apply Kd.R_drew)); exact HO242.out))) (below_size (by repeat (first | (with_reducible first | exact HB.out | apply below_alloc | apply pw_below_drewN | apply below_drew1) | exact HB.out)))); have n2_ := Aside0.mk (below_step (by repeat (first | (with_reducible first | exact HB.out | apply below_alloc | apply pw_below_drewN | apply below_drew1) | exact HB.out)) hb); clear HO242; clear HB; have HO242 := n0_; have HO245 := n1_; have HB := n2_; clear n0_ n1_ n2_; (try clear hb); (try clear hb2); (try clear hk); (try clear hi); (try clear ho0); obtain ⟨Ao28, co28, eo28⟩ := Kd.R_slice HO242.out; subst eo28; obtain ⟨Ao29, co29, eo29⟩ := Kd.R_slice HO245.out; subst eo29) | ((with_reducible refine gate_callee (f := 18) rfl ?_); refine goesL_ (some 62) rfl rfl Try.func18 (by kernel_rfl) rfl #[.slice Ao28 t240.length co28, .slice Ao29 t243.length co29] rfl (by (try simp only [List.map_toArray, List.map_cons, List.map_nil]); first | done | rfl | (simp only [List.length_drop, List.length_take]; rfl)) ?_; (with_reducible refine (psalteryref04_Same.calls kj13 _ _ t240 _ _ t243 true _ ?side1 ?side2 ?side3 ?side4 A22.out).mono ?_); (case side1 => repeat (first | exact (Kd.R_reads' HO242.out).2.2 | (with_reducible refine Kd.C_alloc ?_ _) | (with_reducible refine Kd.C_drewN ?_ _) | (with_reducible refine Kd.C_drew ?_))); (case side2 => exact (Kd.R_reads' HO242.out).2.1); (case side3 => repeat (first | exact (Kd.R_reads' HO245.out).2.2 | (with_reducible refine Kd.C_alloc ?_ _) | (with_reducible refine Kd.C_drewN ?_ _) | (with_reducible refine Kd.C_drew ?_))); (case side4 => exact (Kd.R_reads' HO245.out).2.1); rintro e w' ⟨rfl, ⟨nd, rfl⟩⟩; refine ⟨_, rfl, ?_⟩) | ((with_reducible refine gate_callee (f := 16) rfl ?_); refine goesL_ (some 76) rfl rfl Try.func16 (by kernel_rfl) rfl #[.slice A0 l0.length c0, .int .i64 (wrap64 (1 + (Int.tmod (wrap64 (a4)) 64))), .int .i64 (wrap64 (1 + (Int.tmod (wrap64 (a5)) 64)))] rfl (by (try simp only [List.map_toArray, List.map_cons, List.map_nil]); first | done | rfl | (simp only [List.length_drop, List.length_take]; rfl)) ?_; (with_reducible refine (mixer_Resample.calls kj13 _ _ l0 (wrap64 (1 + (Int.tmod (wrap64 (a4)) 64))) (wrap64 (1 + (Int.tmod (wrap64 (a5)) 64))) t247 t248 _ ?side1 ?side2 A24.out).mono ?_); (case side1 => repeat (first | exact (Kd.C_below HR0.out (by repeat (first | (with_reducible first | exact HB.out | apply below_alloc | apply pw_below_drewN | apply below_drew1) | exact HB.out))) | (with_reducible refine Kd.C_alloc ?_ _) | (with_reducible refine Kd.C_drewN ?_ _) | (with_reducible refine Kd.C_drew ?_))); (case side2 => exact HC0.out); rintro e w30 ⟨v249, rfl, ho0, hb⟩; refine ⟨_, rfl, ?_⟩; have n0_ := Aside0.mk (Kd.R_elder' (by (with_reducible repeat (first | apply Kd.R_alloc | apply Kd.R_drewN | apply Kd.R_drew)); exact HO242.out) (Kd.R_base ho0) hb); have n1_ := Aside0.mk (Kd.R_elder' (by (with_reducible repeat (first | apply Kd.R_alloc | apply Kd.R_drewN | apply Kd.R_drew)); exact HO245.out) (Kd.R_base ho0) hb); have n2_ := Aside0.mk (Kd.R_lower (Kd.R_new' (Kd.R_new' ho0 (Kd.R_lt (by (with_reducible repeat (first | apply Kd.R_alloc | apply Kd.R_drewN | apply Kd.R_drew)); exact HO242.out))) (Kd.R_lt (by (with_reducible repeat (first | apply Kd.R_alloc | apply Kd.R_drewN | apply Kd.R_drew)); exact HO245.out))) (below_size (by repeat (first | (with_reducible first | exact HB.out | apply below_alloc | apply pw_below_drewN | apply below_drew1) | exact HB.out)))); have n3_ := Aside0.mk (below_step (by repeat (first | (with_reducible first | exact HB.out | apply below_alloc | apply pw_below_drewN | apply below_drew1) | exact HB.out)) hb); clear HO242; clear HO245; clear HB; have HO242 := n0_; have HO245 := n1_; have HO250 := n2_; have HB := n3_; clear n0_ n1_ n2_ n3_; (try clear hb); (try clear hb2); (try clear hk); (try clear hi); (try clear ho0)))
                  (try simp only [Act.put, List.setIfInBounds_toArray, List.set_cons_zero, List.set_cons_succ])
                  go_cut [91] (fun v91 wc => ∃ (kq : Nat) (x91_24 : Bool), v91 = .bool x91_24 ∧ Aside0 (psalterylaw33_MixerPlain.j2 kq l0 t247 x91_24 = some r) ∧ Aside0 (kq ≤ kj13) ∧ Aside0 (Kd.R (Kd.int .i16) 36 wc w.heap.size (fun _ => True) v249 t247) ∧ Aside0 (Below w.heap.size w wc))
                  case first =>
                    have H := HC25.out
                    clear HC25
                    by_cases c31 : t248 = 0
                    · rw [if_pos c31] at H
                      have c31b0 : (t248 == 0) = true := beq_iff_eq.mpr c31
                      have c31b1 : (t248 != 0) = false := bne_eq_false_iff_eq.mpr c31
                      clear c31
                      (first | rw [c31b0] | (simp only [i64_w, i32_w]; rw [c31b0]) | skip)
                      by_cases c32 : (wrap64 (1 + (Int.tmod (wrap64 (a5)) 64))) = 0
                      · rw [if_pos c32] at H
                        exact absurd H (by simp)
                      · rw [if_neg c32] at H
                        have c32b0 : ((wrap64 (1 + (Int.tmod (wrap64 (a5)) 64))) == 0) = false := beq_eq_false_iff_ne.mpr c32
                        have c32b1 : ((wrap64 (1 + (Int.tmod (wrap64 (a5)) 64))) != 0) = true := bne_iff_ne.mpr c32
                        have H' := Aside0.mk H
                        clear H
                        obtain ⟨Ao33, co33, eo33⟩ := Kd.R_slice HO250.out
                        subst eo33
                        go_wp2
                        go_meet
                        case rel => exact ⟨_, (((t247.length : Int) != (wrap64 (Int.tdiv (wrap64 ((l0.length : Int) * (wrap64 (1 + (Int.tmod (wrap64 (a4)) 64))))) (wrap64 (1 + (Int.tmod (wrap64 (a5)) 64))))))), (by first | rfl | (simp; done) | (simp [*]; done)), H', ⟨by have := HJ8.out; have := HJ13.out; first | omega | exact Nat.le_refl _⟩, ⟨by (with_reducible repeat (first | apply Kd.R_alloc | apply Kd.R_drewN | apply Kd.R_drew)); exact Kd.R_mono HO250.out (fun _ hk => trivial)⟩, ⟨by repeat (first | (with_reducible first | exact HB.out | apply below_alloc | apply pw_below_drewN | apply below_drew1) | exact HB.out)⟩⟩
                    · rw [if_neg c31] at H
                      have c31b0 : (t248 == 0) = false := beq_eq_false_iff_ne.mpr c31
                      have c31b1 : (t248 != 0) = true := bne_iff_ne.mpr c31
                      (first | rw [c31b0] | (simp only [i64_w, i32_w]; rw [c31b0]) | skip)
                      have H' := Aside0.mk H
                      clear H
                      go_wp2
                      go_meet
                      case rel => exact ⟨_, (true), (by first | rfl | (simp; done) | (simp [*]; done)), H', ⟨by have := HJ8.out; have := HJ13.out; first | omega | exact Nat.le_refl _⟩, ⟨by (with_reducible repeat (first | apply Kd.R_alloc | apply Kd.R_drewN | apply Kd.R_drew)); exact Kd.R_mono HO250.out (fun _ hk => trivial)⟩, ⟨by repeat (first | (with_reducible first | exact HB.out | apply below_alloc | apply pw_below_drewN | apply below_drew1) | exact HB.out)⟩⟩
                  case rest =>
                    clear HC25
                    try clear c1
                    try clear c2
                    try clear p2
                    try clear c3
                    try clear c4
                    try clear p6
                    try clear c8
                    try clear c10
                    try clear c11
                    try clear c11b0
                    try clear c11b1
                    try clear c12
                    try clear c15
                    try clear c16
                    try clear c16b0
                    try clear c16b1
                    try clear c18
                    try clear c19
                    try clear c23
                    try clear c31
                    try clear c31b0
                    try clear c31b1
                    try clear c32
                    try clear c32b0
                    try clear c32b1
                    try clear p2
                    try clear p6
                    obtain ⟨kq, x91_24, rfl, HA, HJ24, HO_18, HB⟩ := hcut
                    cases kq with
                    | zero => exact absurd HA.out (by simp [psalterylaw33_MixerPlain.j2])
                    | succ kj24 =>
                      have H := HA.out
                      clear HA
                      simp only [psalterylaw33_MixerPlain.j2] at H
                      by_cases c34 : x91_24 = true
                      · subst c34
                        have H1 : (some false) = some r := by rw [if_pos rfl] at H; exact H
                        clear H
                        have H := H1
                        clear H1
                        obtain rfl := Option.some.inj H
                        go_wp2
                        go_ret
                        exact ⟨by first | rfl | (simp [errW_none, errW_some] <;> rfl) | (simp [*, errW_none, errW_some] <;> rfl), by repeat (first | (with_reducible first | exact HB.out | apply below_alloc | apply pw_below_drewN | apply below_drew1) | exact HB.out)⟩
                      · replace c34 := Bool.eq_false_iff.mpr c34
                        subst c34
                        have H1 : (psalterylaw33_MixerPlain.l0 kj24 l0 t247 0 0 0) = some r := by rw [if_neg (show ¬ (false = true) by decide)] at H; exact H
                        clear H
                        have H := H1
                        clear H1
                        have H' := Aside0.mk H
                        clear H
                        go_wp2
                        go_loopg [20, 21, 22] kj24 (fun kq v20 v21 v22 w' => ∃ (x20_4 : Int) (x21_4 : Int) (x22_4 : Int), v20 = .int .i16 x20_4 ∧ v21 = .int .i16 x21_4 ∧ v22 = .int .i64 x22_4 ∧ Aside0 (psalterylaw33_MixerPlain.l0 kq l0 t247 x20_4 x21_4 x22_4 = some r) ∧ Aside0 (kq ≤ kj24) ∧ Aside0 (Kd.R (Kd.int .i16) 36 w' w.heap.size (fun _ => True) v249 t247) ∧ Aside0 (Below w.heap.size w w'))
                        case atStart => exact ⟨(0), (0), (0), (by first | rfl | (simp; done) | (simp [*]; done)), (by first | rfl | (simp; done) | (simp [*]; done)), (by first | rfl | (simp; done) | (simp [*]; done)), H', ⟨Nat.le_refl _⟩, ⟨by (with_reducible repeat (first | apply Kd.R_alloc | apply Kd.R_drewN | apply Kd.R_drew)); exact HO_18.out⟩, ⟨by repeat (first | (with_reducible first | exact HB.out | apply below_alloc | apply pw_below_drewN | apply below_drew1) | exact HB.out)⟩⟩
                        case round =>
                          clear H'
                          try clear c1
                          try clear c2
                          try clear p2
                          try clear c3
                          try clear c4
                          try clear p6
                          try clear c8
                          try clear c10
                          try clear c11
                          try clear c11b0
                          try clear c11b1
                          try clear c12
                          try clear c15
                          try clear c16
                          try clear c16b0
                          try clear c16b1
                          try clear c18
                          try clear c19
                          try clear c23
                          try clear c31
                          try clear c31b0
                          try clear c31b1
                          try clear c32
                          try clear c32b0
                          try clear c32b1
                          try clear c34
                          try clear p2
                          try clear p6
                          obtain ⟨x20_4, x21_4, x22_4, rfl, rfl, rfl, HA, HK4, HO_18, HB⟩ := hrel
                          cases gk with
                          | zero => exact absurd HA.out (by simp [psalterylaw33_MixerPlain.l0])
                          | succ k4 =>
                            have H := HA.out
                            clear HA
                            simp only [psalterylaw33_MixerPlain.l0] at H
                            by_cases c35 : x22_4 < (l0.length : Int)
                            · rw [if_pos c35] at H
                              have c35b0 : decide (x22_4 < (l0.length : Int)) = true := decide_eq_true c35
                              clear c35
                              by_cases c36 : 0 ≤ x22_4
                              · rw [if_pos c36] at H
                                have c36b0 : decide (0 ≤ x22_4) = true := decide_eq_true c36
                                clear c36
                                obtain ⟨ji37, hji37⟩ : ∃ j_ : Int, (mn x20_4 (rd l0 x22_4)) = j_ := ⟨_, rfl⟩
                                replace H : (psalterylaw33_MixerPlain.l0 k4 l0 t247 ji37 (mx x21_4 (rd l0 x22_4)) (wrap64 (x22_4 + 1))) = some r := by first | (rw [hji37] at H; exact H) | (simp only [hji37] at H ⊢; exact H)
                                have hji37_ : (if (rd l0 x22_4) < x20_4 then (rd l0 x22_4) else x20_4) = ji37 := hji37
                                obtain ⟨ji38, hji38⟩ : ∃ j_ : Int, (mx x21_4 (rd l0 x22_4)) = j_ := ⟨_, rfl⟩
                                replace H : (psalterylaw33_MixerPlain.l0 k4 l0 t247 ji37 ji38 (wrap64 (x22_4 + 1))) = some r := by first | (rw [hji38] at H; exact H) | (simp only [hji38] at H ⊢; exact H)
                                have hji38_ : (if x21_4 < (rd l0 x22_4) then (rd l0 x22_4) else x21_4) = ji38 := hji38
                                have H' := Aside0.mk H
                                clear H
                                have p251 : 0 ≤ (x22_4 : Int) := of_decide_eq_true (by first | (with_reducible assumption) | assumption)
                                have q251 : x22_4 < (l0.length : Int) := of_decide_eq_true (by first | (with_reducible assumption) | assumption)
                                obtain ⟨ad251, e251, hx251_0⟩ := Kd.at_int HR0.out x22_4 p251 q251
                                cases e251
                                replace hx251_0 := (HB.out.cell (World.block_lt_of_cell? w _ hx251_0)).trans hx251_0
                                replace p251 := eq_true p251
                                replace q251 := eq_true q251
                                have p252 : 0 ≤ (x22_4 : Int) := of_decide_eq_true (by first | (with_reducible assumption) | assumption)
                                have q252 : x22_4 < (l0.length : Int) := of_decide_eq_true (by first | (with_reducible assumption) | assumption)
                                obtain ⟨ad252, e252, hx252_0⟩ := Kd.at_int HR0.out x22_4 p252 q252
                                obtain rfl : ad251 = ad252 := (by injection e252)
                                replace hx252_0 := (HB.out.cell (World.block_lt_of_cell? w _ hx252_0)).trans hx252_0
                                replace p252 := eq_true p252
                                replace q252 := eq_true q252
                                go_wp2
                                go_roundg k4
                                case measure => have := HJ8.out; have := HJ13.out; have := HJ24.out; have := HK4.out; omega
                                case rel => exact ⟨(ji37), (ji38), (wrap64 (x22_4 + 1)), (by first | rfl | (simp; done) | (simp only [← hji37] <;> (first | rfl | simp)) | (simp [*]; done)), (by first | rfl | (simp; done) | (simp only [← hji38] <;> (first | rfl | simp)) | (simp [*]; done)), (by first | rfl | (simp; done) | (simp [*]; done)), H', ⟨by have := HJ8.out; have := HJ13.out; have := HJ24.out; have := HK4.out; omega⟩, ⟨by (with_reducible repeat (first | apply Kd.R_alloc | apply Kd.R_drewN | apply Kd.R_drew)); exact HO_18.out⟩, ⟨by repeat (first | (with_reducible first | exact HB.out | apply below_alloc | apply pw_below_drewN | apply below_drew1) | exact HB.out)⟩⟩
                              · rw [if_neg c36] at H
                                exact absurd H (by simp)
                            · rw [if_neg c35] at H
                              have c35b0 : decide (x22_4 < (l0.length : Int)) = false := decide_eq_false c35
                              clear c35
                              have H' := Aside0.mk H
                              clear H
                              go_wp2
                              go_loopg [23] k4 (fun kq v23 w' => ∃ (x23_5 : Int), v23 = .int .i64 x23_5 ∧ Aside0 (psalterylaw33_MixerPlain.l1 kq t247 x20_4 x21_4 x23_5 = some r) ∧ Aside0 (kq ≤ k4) ∧ Aside0 (Kd.R (Kd.int .i16) 36 w' w.heap.size (fun _ => True) v249 t247) ∧ Aside0 (Below w.heap.size w w'))
                              case atStart => exact ⟨(0), (by first | rfl | (simp; done) | (simp [*]; done)), H', ⟨Nat.le_refl _⟩, ⟨by (with_reducible repeat (first | apply Kd.R_alloc | apply Kd.R_drewN | apply Kd.R_drew)); exact HO_18.out⟩, ⟨by repeat (first | (with_reducible first | exact HB.out | apply below_alloc | apply pw_below_drewN | apply below_drew1) | exact HB.out)⟩⟩
                              case round =>
                                clear H'
                                try clear c1
                                try clear c2
                                try clear p2
                                try clear q2
                                try clear hx2
                                try clear c3
                                try clear c4
                                try clear p6
                                try clear c8
                                try clear c10
                                try clear c11
                                try clear c11b0
                                try clear c11b1
                                try clear c12
                                try clear c15
                                try clear c16
                                try clear c16b0
                                try clear c16b1
                                try clear c18
                                try clear c19
                                try clear c23
                                try clear p25
                                try clear q25
                                try clear hx25
                                try clear c31
                                try clear c31b0
                                try clear c31b1
                                try clear c32
                                try clear c32b0
                                try clear c32b1
                                try clear c34
                                try clear c35
                                try clear c35b0
                                try clear c36
                                try clear c36b0
                                try clear hx251_0
                                try clear hx252_0
                                try clear p2
                                try clear p251
                                try clear p252
                                try clear p6
                                try clear q251
                                try clear q252
                                obtain ⟨x23_5, rfl, HA, HK5, HO_18, HB⟩ := hrel
                                cases gk with
                                | zero => exact absurd HA.out (by simp [psalterylaw33_MixerPlain.l1])
                                | succ k5 =>
                                  have H := HA.out
                                  clear HA
                                  simp only [psalterylaw33_MixerPlain.l1] at H
                                  by_cases c39 : x23_5 < (t247.length : Int)
                                  · rw [if_pos c39] at H
                                    have c39b0 : decide (x23_5 < (t247.length : Int)) = true := decide_eq_true c39
                                    clear c39
                                    by_cases c40 : 0 ≤ x23_5
                                    · rw [if_pos c40] at H
                                      have c40b0 : decide (0 ≤ x23_5) = true := decide_eq_true c40
                                      clear c40
                                      by_cases c41 : (rd t247 x23_5) < x20_4
                                      · rw [if_pos c41] at H
                                        have c41b0 : decide ((rd t247 x23_5) < x20_4) = true := decide_eq_true c41
                                        clear c41
                                        obtain rfl := Option.some.inj H
                                        obtain ⟨Ao42, co42, eo42⟩ := Kd.R_slice HO_18.out
                                        subst eo42
                                        have p253 : 0 ≤ (x23_5 : Int) := of_decide_eq_true (by first | (with_reducible assumption) | assumption)
                                        have q253 : x23_5 < (t247.length : Int) := of_decide_eq_true (by first | (with_reducible assumption) | assumption)
                                        obtain ⟨ad253, e253, hx253_0⟩ := Kd.at_int (Kd.R_reads' HO_18.out).2.2 x23_5 p253 q253
                                        cases e253
                                        replace p253 := eq_true p253
                                        replace q253 := eq_true q253
                                        go_wp2
                                        go_ret
                                        exact ⟨by first | rfl | (simp [errW_none, errW_some] <;> rfl) | (simp [*, errW_none, errW_some] <;> rfl), by repeat (first | (with_reducible first | exact HB.out | apply below_alloc | apply pw_below_drewN | apply below_drew1) | exact HB.out)⟩
                                      · rw [if_neg c41] at H
                                        have c41b0 : decide ((rd t247 x23_5) < x20_4) = false := decide_eq_false c41
                                        clear c41
                                        by_cases c43 : (rd t247 x23_5) > x21_4
                                        · rw [if_pos c43] at H
                                          have c43b0 : decide (x21_4 < (rd t247 x23_5)) = true := decide_eq_true c43
                                          clear c43
                                          obtain rfl := Option.some.inj H
                                          obtain ⟨Ao44, co44, eo44⟩ := Kd.R_slice HO_18.out
                                          subst eo44
                                          have p253 : 0 ≤ (x23_5 : Int) := of_decide_eq_true (by first | (with_reducible assumption) | assumption)
                                          have q253 : x23_5 < (t247.length : Int) := of_decide_eq_true (by first | (with_reducible assumption) | assumption)
                                          obtain ⟨ad253, e253, hx253_0⟩ := Kd.at_int (Kd.R_reads' HO_18.out).2.2 x23_5 p253 q253
                                          cases e253
                                          replace p253 := eq_true p253
                                          replace q253 := eq_true q253
                                          have p254 : 0 ≤ (x23_5 : Int) := of_decide_eq_true (by first | (with_reducible assumption) | assumption)
                                          have q254 : x23_5 < (t247.length : Int) := of_decide_eq_true (by first | (with_reducible assumption) | assumption)
                                          obtain ⟨ad254, e254, hx254_0⟩ := Kd.at_int (Kd.R_reads' HO_18.out).2.2 x23_5 p254 q254
                                          obtain rfl : ad253 = ad254 := (by injection e254)
                                          replace p254 := eq_true p254
                                          replace q254 := eq_true q254
                                          go_wp2
                                          go_ret
                                          exact ⟨by first | rfl | (simp [errW_none, errW_some] <;> rfl) | (simp [*, errW_none, errW_some] <;> rfl), by repeat (first | (with_reducible first | exact HB.out | apply below_alloc | apply pw_below_drewN | apply below_drew1) | exact HB.out)⟩
                                        · rw [if_neg c43] at H
                                          have c43b0 : decide (x21_4 < (rd t247 x23_5)) = false := decide_eq_false c43
                                          clear c43
                                          have H' := Aside0.mk H
                                          clear H
                                          obtain ⟨Ao45, co45, eo45⟩ := Kd.R_slice HO_18.out
                                          subst eo45
                                          have p253 : 0 ≤ (x23_5 : Int) := of_decide_eq_true (by first | (with_reducible assumption) | assumption)
                                          have q253 : x23_5 < (t247.length : Int) := of_decide_eq_true (by first | (with_reducible assumption) | assumption)
                                          obtain ⟨ad253, e253, hx253_0⟩ := Kd.at_int (Kd.R_reads' HO_18.out).2.2 x23_5 p253 q253
                                          cases e253
                                          replace p253 := eq_true p253
                                          replace q253 := eq_true q253
                                          have p254 : 0 ≤ (x23_5 : Int) := of_decide_eq_true (by first | (with_reducible assumption) | assumption)
                                          have q254 : x23_5 < (t247.length : Int) := of_decide_eq_true (by first | (with_reducible assumption) | assumption)
                                          obtain ⟨ad254, e254, hx254_0⟩ := Kd.at_int (Kd.R_reads' HO_18.out).2.2 x23_5 p254 q254
                                          obtain rfl : ad253 = ad254 := (by injection e254)
                                          replace p254 := eq_true p254
                                          replace q254 := eq_true q254
                                          go_wp2
                                          go_roundg k5
                                          case measure => have := HJ8.out; have := HJ13.out; have := HJ24.out; have := HK4.out; have := HK5.out; omega
                                          case rel => exact ⟨(wrap64 (x23_5 + 1)), (by first | rfl | (simp; done) | (simp [*]; done)), H', ⟨by have := HJ8.out; have := HJ13.out; have := HJ24.out; have := HK4.out; have := HK5.out; omega⟩, ⟨by (with_reducible repeat (first | apply Kd.R_alloc | apply Kd.R_drewN | apply Kd.R_drew)); exact HO_18.out⟩, ⟨by repeat (first | (with_reducible first | exact HB.out | apply below_alloc | apply pw_below_drewN | apply below_drew1) | exact HB.out)⟩⟩
                                    · rw [if_neg c40] at H
                                      exact absurd H (by simp)
                                  · rw [if_neg c39] at H
                                    have c39b0 : decide (x23_5 < (t247.length : Int)) = false := decide_eq_false c39
                                    clear c39
                                    obtain rfl := Option.some.inj H
                                    obtain ⟨Ao46, co46, eo46⟩ := Kd.R_slice HO_18.out
                                    subst eo46
                                    go_wp2
                                    go_ret
                                    exact ⟨by first | rfl | (simp [errW_none, errW_some] <;> rfl) | (simp [*, errW_none, errW_some] <;> rfl), by repeat (first | (with_reducible first | exact HB.out | apply below_alloc | apply pw_below_drewN | apply below_drew1) | exact HB.out)⟩
                · replace c23 := Bool.eq_false_iff.mpr c23
                  subst c23
                  have H1 : (some false) = some r := by rw [if_neg (show ¬ (false = true) by decide)] at H; exact H
                  clear H
                  have H := H1
                  clear H1
                  obtain rfl := Option.some.inj H
                  go_wp2_with (first | ((with_reducible refine gate_callee (f := 41) rfl ?_); refine goesL_ (some 58) rfl rfl Try.func41 (by kernel_rfl) rfl #[.slice A0 l0.length c0, .slice A1 l1.length c1, .int .i16 a2, .int .i16 0] rfl (by (try simp only [List.map_toArray, List.map_cons, List.map_nil]); first | done | rfl | (simp only [List.length_drop, List.length_take]; rfl)) ?_; (with_reducible refine (mixer_Mix.calls kj13 _ _ l0 _ _ l1 a2 0 t240 _ ?side1 ?side2 ?side3 ?side4 A20.out).mono ?_); (case side1 => repeat (first | exact (Kd.C_below HR0.out HB.out) | (with_reducible refine Kd.C_alloc ?_ _) | (with_reducible refine Kd.C_drewN ?_ _) | (with_reducible refine Kd.C_drew ?_))); (case side2 => exact HC0.out); (case side3 => repeat (first | exact (Kd.C_below HR1.out HB.out) | (with_reducible refine Kd.C_alloc ?_ _) | (with_reducible refine Kd.C_drewN ?_ _) | (with_reducible refine Kd.C_drew ?_))); (case side4 => exact HC1.out); rintro e w47 ⟨v241, rfl, ho0, hb⟩; refine ⟨_, rfl, ?_⟩; have n0_ := Aside0.mk (Kd.R_lower ho0 (below_size (by repeat (first | (with_reducible first | exact HB.out | apply below_alloc | apply pw_below_drewN | apply below_drew1) | exact HB.out)))); have n1_ := Aside0.mk (below_step (by repeat (first | (with_reducible first | exact HB.out | apply below_alloc | apply pw_below_drewN | apply below_drew1) | exact HB.out)) hb); clear HB; have HO242 := n0_; have HB := n1_; clear n0_ n1_; (try clear hb); (try clear hb2); (try clear hk); (try clear hi); (try clear ho0)) | ((with_reducible refine gate_callee (f := 41) rfl ?_); refine goesL_ (some 61) rfl rfl Try.func41 (by kernel_rfl) rfl #[.slice A0 l0.length c0, .slice none 0 0, .int .i16 a2, .int .i16 5] rfl (by (try simp only [List.map_toArray, List.map_cons, List.map_nil]); first | done | rfl | (simp only [List.length_drop, List.length_take]; rfl)) ?_; (refine (mixer_Mix.calls kj13 _ _ l0 _ _ ([] : List Int) a2 5 t243 _ ?side1 ?side2 ?side3 ?side4 A21.out).mono ?_); (case side1 => repeat (first | exact (Kd.C_below HR0.out HB.out) | (with_reducible refine Kd.C_alloc ?_ _) | (with_reducible refine Kd.C_drewN ?_ _) | (with_reducible refine Kd.C_drew ?_))); (case side2 => exact HC0.out); (case side3 => exact Kd.C_nil _ _); (case side4 => exact Nat.le_refl _); rintro e w48 ⟨v244, rfl, ho0, hb⟩; refine ⟨_, rfl, ?_⟩; have n0_ := Aside0.mk (Kd.R_elder' (by (with_reducible repeat (first | apply Kd.R_alloc | apply Kd.R_drewN | apply Kd.R_drew)); exact HO242.out) (Kd.R_base ho0) hb); have n1_ := Aside0.mk (Kd.R_lower (Kd.R_new' ho0 (Kd.R_lt (by (with_reducible repeat (first | apply Kd.R_alloc | apply Kd.R_drewN | apply Kd.R_drew)); exact HO242.out))) (below_size (by repeat (first | (with_reducible first | exact HB.out | apply below_alloc | apply pw_below_drewN | apply below_drew1) | exact HB.out)))); have n2_ := Aside0.mk (below_step (by repeat (first | (with_reducible first | exact HB.out | apply below_alloc | apply pw_below_drewN | apply below_drew1) | exact HB.out)) hb); clear HO242; clear HB; have HO242 := n0_; have HO245 := n1_; have HB := n2_; clear n0_ n1_ n2_; (try clear hb); (try clear hb2); (try clear hk); (try clear hi); (try clear ho0); obtain ⟨Ao49, co49, eo49⟩ := Kd.R_slice HO242.out; subst eo49; obtain ⟨Ao50, co50, eo50⟩ := Kd.R_slice HO245.out; subst eo50) | ((with_reducible refine gate_callee (f := 18) rfl ?_); refine goesL_ (some 62) rfl rfl Try.func18 (by kernel_rfl) rfl #[.slice Ao49 t240.length co49, .slice Ao50 t243.length co50] rfl (by (try simp only [List.map_toArray, List.map_cons, List.map_nil]); first | done | rfl | (simp only [List.length_drop, List.length_take]; rfl)) ?_; (with_reducible refine (psalteryref04_Same.calls kj13 _ _ t240 _ _ t243 false _ ?side1 ?side2 ?side3 ?side4 A22.out).mono ?_); (case side1 => repeat (first | exact (Kd.R_reads' HO242.out).2.2 | (with_reducible refine Kd.C_alloc ?_ _) | (with_reducible refine Kd.C_drewN ?_ _) | (with_reducible refine Kd.C_drew ?_))); (case side2 => exact (Kd.R_reads' HO242.out).2.1); (case side3 => repeat (first | exact (Kd.R_reads' HO245.out).2.2 | (with_reducible refine Kd.C_alloc ?_ _) | (with_reducible refine Kd.C_drewN ?_ _) | (with_reducible refine Kd.C_drew ?_))); (case side4 => exact (Kd.R_reads' HO245.out).2.1); rintro e w' ⟨rfl, ⟨nd, rfl⟩⟩; refine ⟨_, rfl, ?_⟩))
                  go_ret
                  exact ⟨by first | rfl | (simp [errW_none, errW_some] <;> rfl) | (simp [*, errW_none, errW_some] <;> rfl), by repeat (first | (with_reducible first | exact HB.out | apply below_alloc | apply pw_below_drewN | apply below_drew1) | exact HB.out)⟩
  · replace c8 := Bool.eq_false_iff.mpr c8
    subst c8
    have H1 : (some false) = some r := by rw [if_neg (show ¬ (false = true) by decide)] at H; exact H
    clear H
    have H := H1
    clear H1
    obtain rfl := Option.some.inj H
    go_enter Try.func10, Try.ntmps10
    go_wp2_with (first | ((with_reducible refine gate_callee (f := 15) rfl ?_); refine goesL_ (some 24) rfl rfl Try.func15 (by kernel_rfl) rfl #[] rfl (by (try simp only [List.map_toArray, List.map_cons, List.map_nil]); first | done | rfl | (simp only [List.length_drop, List.length_take]; rfl)) ?_; (with_reducible refine (psalterylaw33_alive.calls k  false _ A7.out).mono ?_); rintro e w51 ⟨rfl, hb⟩; refine ⟨_, rfl, ?_⟩; have n0_ := Aside0.mk (below_step (by repeat (first | (with_reducible first | exact HB.out | apply below_alloc | apply pw_below_drewN | apply below_drew1) | exact HB.out)) hb); clear HB; have HB := n0_; clear n0_; (try clear hb); (try clear hb2); (try clear hk); (try clear hi)))
    go_ret
    exact ⟨by first | rfl | (simp [errW_none, errW_some] <;> rfl) | (simp [*, errW_none, errW_some] <;> rfl), by repeat (first | (with_reducible first | exact HB.out | apply below_alloc | apply pw_below_drewN | apply below_drew1) | exact HB.out)⟩

/-- THE ONE PURE STATEMENT of psalterylaw33_MixerPlain: yours. -/
def psalterylaw33_MixerPlain.Pure : Prop := ∀ (l0 : List Int) (l1 : List Int) (a2 : Int) (a3 : Int) (a4 : Int) (a5 : Int), l0.length ≤ maxLen → l0.length * 2 ≤ 140737488351232 → (∀ x ∈ l0, (Lit.int .i16 x).wf = true) → l1.length ≤ maxLen → l1.length * 2 ≤ 140737488351232 → (∀ x ∈ l1, (Lit.int .i16 x).wf = true) → (Lit.int .i16 a2).wf = true → (Lit.int .u8 a3).wf = true → (Lit.int .u8 a4).wf = true → (Lit.int .u8 a5).wf = true → ∃ k, psalterylaw33_MixerPlain.f k l0 l1 a2 a3 a4 a5 = some true
theorem psalterylaw33_MixerPlain.walk (P : psalterylaw33_MixerPlain.Pure) (a0 : Option Addr) (len0 cap0 : Nat) (z0 : List Int) (a1 : Option Addr) (len1 cap1 : Nat) (z1 : List Int) (a2 : Int) (a3 : Int) (a4 : Int) (a5 : Int) (w : World) (w0 : (a0 = none ∧ len0 = 0 ∧ cap0 = 0 ∧ z0 = []) ∨ ∃ x, a0 = some x ∧ len0 ≤ cap0 ∧ cap0 ≤ maxLen ∧ z0.length = cap0 ∧ (∀ i, i < z0.length → w.cell? (x.add i) = some (.int .i16 (z0.getD i 0))) ∧ ∀ n ∈ z0, (Lit.int .i16 n).wf = true) (y0 : len0 * 2 ≤ 140737488351232) (w1 : (a1 = none ∧ len1 = 0 ∧ cap1 = 0 ∧ z1 = []) ∨ ∃ x, a1 = some x ∧ len1 ≤ cap1 ∧ cap1 ≤ maxLen ∧ z1.length = cap1 ∧ (∀ i, i < z1.length → w.cell? (x.add i) = some (.int .i16 (z1.getD i 0))) ∧ ∀ n ∈ z1, (Lit.int .i16 n).wf = true) (y1 : len1 * 2 ≤ 140737488351232) (w2 : (Lit.int .i16 a2).wf = true) (w3 : (Lit.int .u8 a3).wf = true) (w4 : (Lit.int .u8 a4).wf = true) (w5 : (Lit.int .u8 a5).wf = true) :
    Calls Try.prog 10 #[.slice a0 len0 cap0, .slice a1 len1 cap1, .int .i16 a2, .int .u8 a3, .int .u8 a4, .int .u8 a5] w fun e w' => e = .returned (.bool true) ∧ Below w.heap.size w w' := by
  obtain ⟨l0, rfl, hr0, hm0, hw0, hc0⟩ := ReadsInt.ofRowC w0
  obtain ⟨l1, rfl, hr1, hm1, hw1, hc1⟩ := ReadsInt.ofRowC w1
  obtain ⟨k, h⟩ := P l0 l1 a2 a3 a4 a5 hm0 y0 hw0 hm1 y1 hw1 w2 w3 w4 w5
  refine (psalterylaw33_MixerPlain.calls k _ _ l0 _ _ l1 a2 a3 a4 a5 true w (Kd.C_of_reads (d := (0 : Int)) (h1 := fun _ => rfl) hr0) hc0 (Kd.C_of_reads (d := (0 : Int)) (h1 := fun _ => rfl) hr1) hc1 h).mono ?_
  rintro e w' ⟨rfl, hd⟩
  exact ⟨rfl, hd⟩

end Go.Proofs.Ytnaeondfkkiimaa.PMixer
