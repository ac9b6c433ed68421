/- Contracts of the functions that the law Gain reaches: each Go function as a Lean function, and that the Go text comes to it. Written by programs (wip/tools), out of the program's own loaded form. -/
import Derived.Test.YtfipchhpnnjkeaaPGainx0
import Derived.Test.YtfipchhpnnjkeaaPGainx2
namespace Go.Proofs.Ytfipchhpnnjkeaa.PGain
open Go.RowKit Go.Proofs.YtfipchhpnnjkeaaW.PrintWords Go.Proofs.YtfipchhpnnjkeaaW.PrintLast Go.Proofs.YtfipchhpnnjkeaaW.PrintMore
attribute [local go_sem] max2_int min2_int max_two min_two max_three min_three max_four min_four   -- for this text's walks alone
set_option linter.unusedVariables false
set_option linter.unusedSimpArgs false

/-! ### psalteryref01_Sat: function 61 -/
def psalteryref01_Sat.f (a0 : Int) (a1 : Int) : Option (Int) := if 0 ≤ (IntKind.u64.wrap (wrap64 (a1 - 1))) then (if a0 > (wrap64 ((shl .i64 1 (IntKind.u64.wrap (wrap64 (a1 - 1)))) - 1)) then (some (wrap64 ((shl .i64 1 (IntKind.u64.wrap (wrap64 (a1 - 1)))) - 1))) else (if a0 < (wrap64 ((wrap64 (-(wrap64 ((shl .i64 1 (IntKind.u64.wrap (wrap64 (a1 - 1)))) - 1)))) - 1)) then (some (wrap64 ((wrap64 (-(wrap64 ((shl .i64 1 (IntKind.u64.wrap (wrap64 (a1 - 1)))) - 1)))) - 1))) else (some a0))) else (none)
set_option maxHeartbeats 8000000 in
set_option maxRecDepth 100000 in
theorem psalteryref01_Sat.calls (a0 : Int) (a1 : Int) (r : Int) (w : World) (h : psalteryref01_Sat.f a0 a1 = some r) :
    Calls Try.prog 61 #[.int .i64 a0, .int .i64 a1] w fun e w' => e = .returned (.int .i64 r) ∧ Drawn0 w w' := by
  have H : (if 0 ≤ (IntKind.u64.wrap (wrap64 (a1 - 1))) then (if a0 > (wrap64 ((shl .i64 1 (IntKind.u64.wrap (wrap64 (a1 - 1)))) - 1)) then (some (wrap64 ((shl .i64 1 (IntKind.u64.wrap (wrap64 (a1 - 1)))) - 1))) else (if a0 < (wrap64 ((wrap64 (-(wrap64 ((shl .i64 1 (IntKind.u64.wrap (wrap64 (a1 - 1)))) - 1)))) - 1)) then (some (wrap64 ((wrap64 (-(wrap64 ((shl .i64 1 (IntKind.u64.wrap (wrap64 (a1 - 1)))) - 1)))) - 1))) else (some a0))) else (none)) = some r := h
  clear h
  obtain ⟨ji3, hji3⟩ : ∃ j_ : Int, (IntKind.u64.wrap (wrap64 (a1 - 1))) = j_ := ⟨_, rfl⟩
  replace H : (if 0 ≤ (ji3) then (if a0 > (wrap64 ((shl .i64 1 (ji3)) - 1)) then (some (wrap64 ((shl .i64 1 (ji3)) - 1))) else (if a0 < (wrap64 ((wrap64 (-(wrap64 ((shl .i64 1 (ji3)) - 1)))) - 1)) then (some (wrap64 ((wrap64 (-(wrap64 ((shl .i64 1 (ji3)) - 1)))) - 1))) else (some a0))) else (none)) = some r := by first | (rw [hji3] at H; exact H) | (simp only [hji3] at H ⊢; exact H)
  by_cases c4 : 0 ≤ (ji3)
  · rw [if_pos c4] at H
    have c4b0 := eq_true c4
    have c4b1 : decide (0 ≤ (ji3)) = true := decide_eq_true c4
    clear c4
    obtain ⟨ji5, hji5⟩ : ∃ j_ : Int, (shl .i64 1 (ji3)) = j_ := ⟨_, rfl⟩
    replace H : (if a0 > (wrap64 ((ji5) - 1)) then (some (wrap64 ((ji5) - 1))) else (if a0 < (wrap64 ((wrap64 (-(wrap64 ((ji5) - 1)))) - 1)) then (some (wrap64 ((wrap64 (-(wrap64 ((ji5) - 1)))) - 1))) else (some a0))) = some r := by first | (rw [hji5] at H; exact H) | (simp only [hji5] at H ⊢; exact H)
    have hji5_ : (IntKind.i64.wrap (1 * 2 ^ min (ji3).toNat 64)) = ji5 := hji5
    have hji5z : (ji3) ≤ 64 → (IntKind.i64.wrap (1 * 2 ^ (ji3).toNat)) = ji5 := shl_small hji5
    have hji5u : (IntKind.i64.wrap (2 ^ min (ji3).toNat 64)) = ji5 := by have h_ := hji5_; rw [Int.one_mul] at h_; exact h_
    have hji5v : (ji3) ≤ 64 → (IntKind.i64.wrap (2 ^ (ji3).toNat)) = ji5 := fun hle_ => by have h_ := hji5z hle_; rw [Int.one_mul] at h_; exact h_
    have hji5y : (wrap64 (1 * 2 ^ min (ji3).toNat 64)) = ji5 := (i64_w _).symm.trans hji5_
    have hji5x : (ji3) ≤ 64 → (wrap64 (1 * 2 ^ (ji3).toNat)) = ji5 := fun h_ => (i64_w _).symm.trans (hji5z h_)
    by_cases c6 : a0 > (wrap64 ((ji5) - 1))
    · rw [if_pos c6] at H
      have c6b0 : decide ((wrap64 ((ji5) - 1)) < a0) = true := decide_eq_true c6
      clear c6
      obtain rfl := Option.some.inj H
      go_enter Try.func61, Try.ntmps61
      go_wp2
      go_ret
      exact ⟨by first | rfl | (simp; done) | (simp only [← hji3, ← hji5] <;> (first | rfl | simp)) | (simp [*]; done), by repeat (first | exact Drawn0.refl _ | apply Drawn0.step)⟩
    · rw [if_neg c6] at H
      have c6b0 : decide ((wrap64 ((ji5) - 1)) < a0) = false := decide_eq_false c6
      clear c6
      by_cases c7 : a0 < (wrap64 ((wrap64 (-(wrap64 ((ji5) - 1)))) - 1))
      · rw [if_pos c7] at H
        have c7b0 : decide (a0 < (wrap64 ((wrap64 (-(wrap64 ((ji5) - 1)))) - 1))) = true := decide_eq_true c7
        clear c7
        obtain rfl := Option.some.inj H
        go_enter Try.func61, Try.ntmps61
        go_wp2
        go_ret
        exact ⟨by first | rfl | (simp; done) | (simp only [← hji3, ← hji5] <;> (first | rfl | simp)) | (simp [*]; done), by repeat (first | exact Drawn0.refl _ | apply Drawn0.step)⟩
      · rw [if_neg c7] at H
        have c7b0 : decide (a0 < (wrap64 ((wrap64 (-(wrap64 ((ji5) - 1)))) - 1))) = false := decide_eq_false c7
        clear c7
        obtain rfl := Option.some.inj H
        go_enter Try.func61, Try.ntmps61
        go_wp2
        go_ret
        exact ⟨by first | rfl | (simp; done) | (simp only [← hji3, ← hji5] <;> (first | rfl | simp)) | (simp [*]; done), by repeat (first | exact Drawn0.refl _ | apply Drawn0.step)⟩
  · rw [if_neg c4] at H
    exact absurd H (by simp)

/-! ### psalteryref19_May: function 68 -/
mutual
def psalteryref19_May.j0 : Nat → Int → List Int → Int → Bool → Option (Int)
  | 0, _, _, _, _ => none
  | k + 1, x0, x1, x2, x14 => if x14 = true then (some 2) else ((psalteryref19_Step.f k x2).bind fun t237 => (if t237 = 0 then (psalteryref19_May.j1 k x1 true) else (psalteryref19_May.j1 k x1 (x0 != (x1.length : Int)))))
def psalteryref19_May.j1 : Nat → List Int → Bool → Option (Int)
  | 0, _, _ => none
  | k + 1, x1, x23 => if x23 = true then (some 1) else (psalteryref19_May.l0 k x1 0)
def psalteryref19_May.l0 : Nat → List Int → Int → Option (Int)
  | 0, _, _ => none
  | k + 1, x1, x7 => if x7 < (x1.length : Int) then (if 0 ≤ x7 then (if (rd x1 x7) > 32767 then (some 1) else (if (rd x1 x7) < (-32767) then (some 1) else (psalteryref19_May.l0 k x1 (wrap64 (x7 + 1))))) else (none)) else (some 0)
end
def psalteryref19_May.f (k : Nat) (a0 : Int) (l1 : List Int) (a2 : Int) : Option (Int) := if a0 > 120 then (psalteryref19_May.j0 k a0 l1 a2 true) else (psalteryref19_May.j0 k a0 l1 a2 (decide ((l1.length : Int) > 120)))
theorem psalteryref19_May.mono_l : ∀ k, (∀ y0 y1 y2 y3, LeO (psalteryref19_May.j0 k y0 y1 y2 y3) (psalteryref19_May.j0 (k + 1) y0 y1 y2 y3)) ∧ (∀ y0 y1, LeO (psalteryref19_May.j1 k y0 y1) (psalteryref19_May.j1 (k + 1) y0 y1)) ∧ (∀ y0 y1, LeO (psalteryref19_May.l0 k y0 y1) (psalteryref19_May.l0 (k + 1) y0 y1))
  | 0 => ⟨fun _ _ _ _ r h => by simp [psalteryref19_May.j0] at h, fun _ _ r h => by simp [psalteryref19_May.j1] at h, fun _ _ r h => by simp [psalteryref19_May.l0] at h⟩
  | k + 1 => by
    obtain ⟨ih0, ih1, ih2⟩ := psalteryref19_May.mono_l k
    refine ⟨?_, ?_, ?_⟩
    · intro y0 y1 y2 y3
      unfold psalteryref19_May.j0
      repeat' first
      | (with_reducible exact ih0 _ _ _ _)
      | (with_reducible exact ih1 _ _)
      | (with_reducible exact ih2 _ _)
      | (with_reducible exact psalteryref19_Step.mono _ _)
      | (with_reducible exact LeO.refl _)
      | (with_reducible exact LeO.none _)
      | (with_reducible refine LeO.ite ?_ ?_)
      | (with_reducible refine LeO.bind ?_ (fun _ => ?_))
      | exact ih0 _ _ _ _
      | exact ih1 _ _
      | exact ih2 _ _
      | exact psalteryref19_Step.mono _ _
      | exact LeO.none _
      | refine LeO.ite ?_ ?_
      | refine LeO.bind ?_ (fun _ => ?_)
    · intro y0 y1
      unfold psalteryref19_May.j1
      repeat' first
      | (with_reducible exact ih0 _ _ _ _)
      | (with_reducible exact ih1 _ _)
      | (with_reducible exact ih2 _ _)
      | (with_reducible exact psalteryref19_Step.mono _ _)
      | (with_reducible exact LeO.refl _)
      | (with_reducible exact LeO.none _)
      | (with_reducible refine LeO.ite ?_ ?_)
      | (with_reducible refine LeO.bind ?_ (fun _ => ?_))
      | exact ih0 _ _ _ _
      | exact ih1 _ _
      | exact ih2 _ _
      | exact psalteryref19_Step.mono _ _
      | exact LeO.none _
      | refine LeO.ite ?_ ?_
      | refine LeO.bind ?_ (fun _ => ?_)
    · intro y0 y1
      unfold psalteryref19_May.l0
      repeat' first
      | (with_reducible exact ih0 _ _ _ _)
      | (with_reducible exact ih1 _ _)
      | (with_reducible exact ih2 _ _)
      | (with_reducible exact psalteryref19_Step.mono _ _)
      | (with_reducible exact LeO.refl _)
      | (with_reducible exact LeO.none _)
      | (with_reducible refine LeO.ite ?_ ?_)
      | (with_reducible refine LeO.bind ?_ (fun _ => ?_))
      | exact ih0 _ _ _ _
      | exact ih1 _ _
      | exact ih2 _ _
      | exact psalteryref19_Step.mono _ _
      | exact LeO.none _
      | refine LeO.ite ?_ ?_
      | refine LeO.bind ?_ (fun _ => ?_)
theorem psalteryref19_May.mono : ∀ a0 a1 a2 k, LeO (psalteryref19_May.f k a0 a1 a2) (psalteryref19_May.f (k + 1) a0 a1 a2) := by
  intro a0 a1 a2 k
  obtain ⟨ih0, ih1, ih2⟩ := psalteryref19_May.mono_l k
  unfold psalteryref19_May.f
  repeat' first
      | (with_reducible exact ih0 _ _ _ _)
      | (with_reducible exact ih1 _ _)
      | (with_reducible exact ih2 _ _)
      | (with_reducible exact psalteryref19_Step.mono _ _)
      | (with_reducible exact LeO.refl _)
      | (with_reducible exact LeO.none _)
      | (with_reducible refine LeO.ite ?_ ?_)
      | (with_reducible refine LeO.bind ?_ (fun _ => ?_))
      | exact ih0 _ _ _ _
      | exact ih1 _ _
      | exact ih2 _ _
      | exact psalteryref19_Step.mono _ _
      | exact LeO.none _
      | refine LeO.ite ?_ ?_
      | refine LeO.bind ?_ (fun _ => ?_)
set_option maxHeartbeats 8000000 in
set_option maxRecDepth 100000 in
theorem psalteryref19_May.calls (k : Nat) (a0 : Int) (A1 : Option Addr) (c1 : Nat) (l1 : List Int) (a2 : Int) (r : Int) (w : World) (hr1 : Kd.C (Kd.int .i64) w A1 l1.length l1) (hc1 : l1.length ≤ c1) (h : psalteryref19_May.f k a0 l1 a2 = some r) :
    Calls Try.prog 68 #[.int .i64 a0, .slice A1 l1.length c1, .int .i64 a2] w fun e w' => e = .returned (.int .i64 r) ∧ Below w.heap.size w w' := by
  have HR1 := Aside0.mk hr1
  have HC1 := Aside0.mk hc1
  clear hr1 hc1
  have HB := Aside0.mk (Below.refl w.heap.size w)
  have H : (if a0 > 120 then (psalteryref19_May.j0 k a0 l1 a2 true) else (psalteryref19_May.j0 k a0 l1 a2 (decide ((l1.length : Int) > 120)))) = some r := h
  clear h
  have HC4 := Aside0.mk H
  clear H
  go_enter Try.func68, Try.ntmps68
  go_upto_region 1 with (fail)
  go_cut [14] (fun v14 wc => ∃ (kq : Nat) (x14_3 : Bool), v14 = .bool x14_3 ∧ Aside0 (psalteryref19_May.j0 kq a0 l1 a2 x14_3 = some r) ∧ Aside0 (kq ≤ k) ∧ Aside0 (Below w.heap.size w wc))
  case first =>
    have H := HC4.out
    clear HC4
    by_cases c5 : a0 > 120
    · rw [if_pos c5] at H
      have c5b0 : decide (120 < a0) = true := decide_eq_true c5
      clear c5
      (first | rw [c5b0] | (simp only [i64_w, i32_w]; rw [c5b0]) | skip)
      have H' := Aside0.mk H
      clear H
      go_wp2
      go_meet
      case rel => exact ⟨_, (true), (by first | rfl | (simp; done) | (simp [*]; done)), H', ⟨by first | omega | exact Nat.le_refl _⟩, ⟨by repeat (first | (with_reducible first | exact HB.out | apply below_alloc | apply pw_below_drewN | apply below_drew1) | exact HB.out)⟩⟩
    · rw [if_neg c5] at H
      have c5b0 : decide (120 < a0) = false := decide_eq_false c5
      clear c5
      (first | rw [c5b0] | (simp only [i64_w, i32_w]; rw [c5b0]) | skip)
      have H' := Aside0.mk H
      clear H
      go_wp2
      go_meet
      case rel => exact ⟨_, (decide ((l1.length : Int) > 120)), (by first | rfl | (simp; done) | (simp [*]; done)), H', ⟨by first | omega | exact Nat.le_refl _⟩, ⟨by repeat (first | (with_reducible first | exact HB.out | apply below_alloc | apply pw_below_drewN | apply below_drew1) | exact HB.out)⟩⟩
  case rest =>
    clear HC4
    try clear c1
    try clear p2
    try clear c5
    try clear c5b0
    obtain ⟨kq, x14_3, rfl, HA, HJ3, HB⟩ := hcut
    cases kq with
    | zero => exact absurd HA.out (by simp [psalteryref19_May.j0])
    | succ kj3 =>
      have H := HA.out
      clear HA
      simp only [psalteryref19_May.j0] at H
      by_cases c6 : x14_3 = true
      · subst c6
        have H1 : (some 2) = some r := by rw [if_pos rfl] at H; exact H
        clear H
        have H := H1
        clear H1
        obtain rfl := Option.some.inj H
        go_wp2
        go_ret
        exact ⟨by first | rfl | (simp [errW_none, errW_some] <;> rfl) | (simp [*, errW_none, errW_some] <;> rfl), by repeat (first | (with_reducible first | exact HB.out | apply below_alloc | apply pw_below_drewN | apply below_drew1) | exact HB.out)⟩
      · replace c6 := Bool.eq_false_iff.mpr c6
        subst c6
        have H1 : ((psalteryref19_Step.f kj3 a2).bind fun t237 => (if t237 = 0 then (psalteryref19_May.j1 kj3 l1 true) else (psalteryref19_May.j1 kj3 l1 (a0 != (l1.length : Int))))) = some r := by rw [if_neg (show ¬ (false = true) by decide)] at H; exact H
        clear H
        have H := H1
        clear H1
        have HC7 := Aside0.mk H
        clear H
        go_upto_region 3 with (fail)
        go_cut [23] (fun v23 wc => ∃ (kq : Nat) (x23_6 : Bool), v23 = .bool x23_6 ∧ Aside0 (psalteryref19_May.j1 kq l1 x23_6 = some r) ∧ Aside0 (kq ≤ kj3) ∧ Aside0 (Below w.heap.size w wc))
        case first =>
          have H := HC7.out
          clear HC7
          replace H := Option.bind_eq_some_iff.mp H
          obtain ⟨t237, A80, H⟩ := H
          replace H : (if t237 = 0 then (psalteryref19_May.j1 kj3 l1 true) else (psalteryref19_May.j1 kj3 l1 (a0 != (l1.length : Int)))) = some r := H
          have A8 := Aside0.mk A80
          clear A80
          by_cases c9 : t237 = 0
          · rw [if_pos c9] at H
            have c9b0 : (t237 == 0) = true := beq_iff_eq.mpr c9
            have c9b1 : (t237 != 0) = false := bne_eq_false_iff_eq.mpr c9
            clear c9
            (first | rw [c9b0] | (simp only [i64_w, i32_w]; rw [c9b0]) | skip)
            have H' := Aside0.mk H
            clear H
            go_wp2_with (first | ((with_reducible refine gate_callee (f := 18) rfl ?_); refine goesL_ (some 16) rfl rfl Try.func18 (by kernel_rfl) rfl #[.int .i64 a2] rfl (by (try simp only [List.map_toArray, List.map_cons, List.map_nil]); first | done | rfl | (simp only [List.length_drop, List.length_take]; rfl)) ?_; (with_reducible refine (psalteryref19_Step.calls kj3 a2 t237 _ A8.out).mono ?_); rintro e w10 ⟨rfl, hb⟩; refine ⟨_, rfl, ?_⟩; have n0_ := Aside0.mk (below_step (by repeat (first | (with_reducible first | exact HB.out | apply below_alloc | apply pw_below_drewN | apply below_drew1) | exact HB.out)) hb); clear HB; have HB := n0_; clear n0_; (try clear hb); (try clear hb2); (try clear hk); (try clear hi)))
            go_meet
            case rel => exact ⟨_, (true), (by first | rfl | (simp; done) | (simp [*]; done)), H', ⟨by have := HJ3.out; first | omega | exact Nat.le_refl _⟩, ⟨by repeat (first | (with_reducible first | exact HB.out | apply below_alloc | apply pw_below_drewN | apply below_drew1) | exact HB.out)⟩⟩
          · rw [if_neg c9] at H
            have c9b0 : (t237 == 0) = false := beq_eq_false_iff_ne.mpr c9
            have c9b1 : (t237 != 0) = true := bne_iff_ne.mpr c9
            (first | rw [c9b0] | (simp only [i64_w, i32_w]; rw [c9b0]) | skip)
            have H' := Aside0.mk H
            clear H
            go_wp2_with (first | ((with_reducible refine gate_callee (f := 18) rfl ?_); refine goesL_ (some 16) rfl rfl Try.func18 (by kernel_rfl) rfl #[.int .i64 a2] rfl (by (try simp only [List.map_toArray, List.map_cons, List.map_nil]); first | done | rfl | (simp only [List.length_drop, List.length_take]; rfl)) ?_; (with_reducible refine (psalteryref19_Step.calls kj3 a2 t237 _ A8.out).mono ?_); rintro e w11 ⟨rfl, hb⟩; refine ⟨_, rfl, ?_⟩; have n0_ := Aside0.mk (below_step (by repeat (first | (with_reducible first | exact HB.out | apply below_alloc | apply pw_below_drewN | apply below_drew1) | exact HB.out)) hb); clear HB; have HB := n0_; clear n0_; (try clear hb); (try clear hb2); (try clear hk); (try clear hi)))
            go_meet
            case rel => exact ⟨_, ((a0 != (l1.length : Int))), (by first | rfl | (simp; done) | (simp [*]; done)), H', ⟨by have := HJ3.out; first | omega | exact Nat.le_refl _⟩, ⟨by repeat (first | (with_reducible first | exact HB.out | apply below_alloc | apply pw_below_drewN | apply below_drew1) | exact HB.out)⟩⟩
        case rest =>
          clear HC7
          try clear c1
          try clear p2
          try clear c5
          try clear c5b0
          try clear c6
          try clear c9
          try clear c9b0
          try clear c9b1
          try clear p2
          obtain ⟨kq, x23_6, rfl, HA, HJ6, HB⟩ := hcut
          cases kq with
          | zero => exact absurd HA.out (by simp [psalteryref19_May.j1])
          | succ kj6 =>
            have H := HA.out
            clear HA
            simp only [psalteryref19_May.j1] at H
            by_cases c12 : x23_6 = true
            · subst c12
              have H1 : (some 1) = some r := by rw [if_pos rfl] at H; exact H
              clear H
              have H := H1
              clear H1
              obtain rfl := Option.some.inj H
              go_wp2
              go_ret
              exact ⟨by first | rfl | (simp [errW_none, errW_some] <;> rfl) | (simp [*, errW_none, errW_some] <;> rfl), by repeat (first | (with_reducible first | exact HB.out | apply below_alloc | apply pw_below_drewN | apply below_drew1) | exact HB.out)⟩
            · replace c12 := Bool.eq_false_iff.mpr c12
              subst c12
              have H1 : (psalteryref19_May.l0 kj6 l1 0) = some r := by rw [if_neg (show ¬ (false = true) by decide)] at H; exact H
              clear H
              have H := H1
              clear H1
              have H' := Aside0.mk H
              clear H
              go_wp2
              go_loopg [7] kj6 (fun kq v7 w' => ∃ (x7_3 : Int), v7 = .int .i64 x7_3 ∧ Aside0 (psalteryref19_May.l0 kq l1 x7_3 = some r) ∧ Aside0 (kq ≤ kj6) ∧ Aside0 (Below w.heap.size w w'))
              case atStart => exact ⟨(0), (by first | rfl | (simp; done) | (simp [*]; done)), H', ⟨Nat.le_refl _⟩, ⟨by repeat (first | (with_reducible first | exact HB.out | apply below_alloc | apply pw_below_drewN | apply below_drew1) | exact HB.out)⟩⟩
              case round =>
                clear H'
                try clear c1
                try clear p2
                try clear c5
                try clear c5b0
                try clear c6
                try clear c9
                try clear c9b0
                try clear c9b1
                try clear c12
                try clear p2
                obtain ⟨x7_3, rfl, HA, HK3, HB⟩ := hrel
                cases gk with
                | zero => exact absurd HA.out (by simp [psalteryref19_May.l0])
                | succ k3 =>
                  have H := HA.out
                  clear HA
                  simp only [psalteryref19_May.l0] at H
                  by_cases c13 : x7_3 < (l1.length : Int)
                  · rw [if_pos c13] at H
                    have c13b0 : decide (x7_3 < (l1.length : Int)) = true := decide_eq_true c13
                    clear c13
                    by_cases c14 : 0 ≤ x7_3
                    · rw [if_pos c14] at H
                      have c14b0 : decide (0 ≤ x7_3) = true := decide_eq_true c14
                      clear c14
                      by_cases c15 : (rd l1 x7_3) > 32767
                      · rw [if_pos c15] at H
                        have c15b0 : decide (32767 < (rd l1 x7_3)) = true := decide_eq_true c15
                        clear c15
                        obtain rfl := Option.some.inj H
                        have p238 : 0 ≤ (x7_3 : Int) := of_decide_eq_true (by first | (with_reducible assumption) | assumption)
                        have q238 : x7_3 < (l1.length : Int) := of_decide_eq_true (by first | (with_reducible assumption) | assumption)
                        obtain ⟨ad238, e238, hx238_0⟩ := Kd.at_int HR1.out x7_3 p238 q238
                        cases e238
                        replace hx238_0 := (HB.out.cell (World.block_lt_of_cell? w _ hx238_0)).trans hx238_0
                        replace p238 := eq_true p238
                        replace q238 := eq_true q238
                        go_wp2
                        go_ret
                        exact ⟨by first | rfl | (simp [errW_none, errW_some] <;> rfl) | (simp [*, errW_none, errW_some] <;> rfl), by repeat (first | (with_reducible first | exact HB.out | apply below_alloc | apply pw_below_drewN | apply below_drew1) | exact HB.out)⟩
                      · rw [if_neg c15] at H
                        have c15b0 : decide (32767 < (rd l1 x7_3)) = false := decide_eq_false c15
                        clear c15
                        by_cases c16 : (rd l1 x7_3) < (-32767)
                        · rw [if_pos c16] at H
                          have c16b0 : decide ((rd l1 x7_3) < (-32767)) = true := decide_eq_true c16
                          clear c16
                          obtain rfl := Option.some.inj H
                          have p238 : 0 ≤ (x7_3 : Int) := of_decide_eq_true (by first | (with_reducible assumption) | assumption)
                          have q238 : x7_3 < (l1.length : Int) := of_decide_eq_true (by first | (with_reducible assumption) | assumption)
                          obtain ⟨ad238, e238, hx238_0⟩ := Kd.at_int HR1.out x7_3 p238 q238
                          cases e238
                          replace hx238_0 := (HB.out.cell (World.block_lt_of_cell? w _ hx238_0)).trans hx238_0
                          replace p238 := eq_true p238
                          replace q238 := eq_true q238
                          have p239 : 0 ≤ (x7_3 : Int) := of_decide_eq_true (by first | (with_reducible assumption) | assumption)
                          have q239 : x7_3 < (l1.length : Int) := of_decide_eq_true (by first | (with_reducible assumption) | assumption)
                          obtain ⟨ad239, e239, hx239_0⟩ := Kd.at_int HR1.out x7_3 p239 q239
                          obtain rfl : ad238 = ad239 := (by injection e239)
                          replace hx239_0 := (HB.out.cell (World.block_lt_of_cell? w _ hx239_0)).trans hx239_0
                          replace p239 := eq_true p239
                          replace q239 := eq_true q239
                          go_wp2
                          go_ret
                          exact ⟨by first | rfl | (simp [errW_none, errW_some] <;> rfl) | (simp [*, errW_none, errW_some] <;> rfl), by repeat (first | (with_reducible first | exact HB.out | apply below_alloc | apply pw_below_drewN | apply below_drew1) | exact HB.out)⟩
                        · rw [if_neg c16] at H
                          have c16b0 : decide ((rd l1 x7_3) < (-32767)) = false := decide_eq_false c16
                          clear c16
                          have H' := Aside0.mk H
                          clear H
                          have p238 : 0 ≤ (x7_3 : Int) := of_decide_eq_true (by first | (with_reducible assumption) | assumption)
                          have q238 : x7_3 < (l1.length : Int) := of_decide_eq_true (by first | (with_reducible assumption) | assumption)
                          obtain ⟨ad238, e238, hx238_0⟩ := Kd.at_int HR1.out x7_3 p238 q238
                          cases e238
                          replace hx238_0 := (HB.out.cell (World.block_lt_of_cell? w _ hx238_0)).trans hx238_0
                          replace p238 := eq_true p238
                          replace q238 := eq_true q238
                          have p239 : 0 ≤ (x7_3 : Int) := of_decide_eq_true (by first | (with_reducible assumption) | assumption)
                          have q239 : x7_3 < (l1.length : Int) := of_decide_eq_true (by first | (with_reducible assumption) | assumption)
                          obtain ⟨ad239, e239, hx239_0⟩ := Kd.at_int HR1.out x7_3 p239 q239
                          obtain rfl : ad238 = ad239 := (by injection e239)
                          replace hx239_0 := (HB.out.cell (World.block_lt_of_cell? w _ hx239_0)).trans hx239_0
                          replace p239 := eq_true p239
                          replace q239 := eq_true q239
                          go_wp2
                          go_roundg k3
                          case measure => have := HJ3.out; have := HJ6.out; have := HK3.out; omega
                          case rel => exact ⟨(wrap64 (x7_3 + 1)), (by first | rfl | (simp; done) | (simp [*]; done)), H', ⟨by have := HJ3.out; have := HJ6.out; have := HK3.out; omega⟩, ⟨by repeat (first | (with_reducible first | exact HB.out | apply below_alloc | apply pw_below_drewN | apply below_drew1) | exact HB.out)⟩⟩
                    · rw [if_neg c14] at H
                      exact absurd H (by simp)
                  · rw [if_neg c13] at H
                    have c13b0 : decide (x7_3 < (l1.length : Int)) = false := decide_eq_false c13
                    clear c13
                    obtain rfl := Option.some.inj H
                    go_wp2
                    go_ret
                    exact ⟨by first | rfl | (simp [errW_none, errW_some] <;> rfl) | (simp [*, errW_none, errW_some] <;> rfl), by repeat (first | (with_reducible first | exact HB.out | apply below_alloc | apply pw_below_drewN | apply below_drew1) | exact HB.out)⟩

/-! ### psalteryref19_Nonzero: function 69 -/
def psalteryref19_Nonzero.l0 : Nat → List Int → Int → Int → Option (Int)
  | 0, _, _, _ => none
  | k + 1, x0, x3, x4 => if x4 < (x0.length : Int) then (if 0 ≤ x4 then (if (rd x0 x4) = 0 then (psalteryref19_Nonzero.l0 k x0 x3 (wrap64 (x4 + 1))) else (psalteryref19_Nonzero.l0 k x0 (wrap64 (x3 + 1)) (wrap64 (x4 + 1)))) else (none)) else (some x3)
def psalteryref19_Nonzero.f (k : Nat) (l0 : List Int) : Option (Int) := psalteryref19_Nonzero.l0 k l0 0 0
theorem psalteryref19_Nonzero.mono_l : ∀ k, (∀ y0 y1 y2, LeO (psalteryref19_Nonzero.l0 k y0 y1 y2) (psalteryref19_Nonzero.l0 (k + 1) y0 y1 y2))
  | 0 => fun _ _ _ r h => by simp [psalteryref19_Nonzero.l0] at h
  | k + 1 => by
    have ih0 := psalteryref19_Nonzero.mono_l k
    · intro y0 y1 y2
      unfold psalteryref19_Nonzero.l0
      repeat' first
      | (with_reducible exact ih0 _ _ _)
      | (with_reducible exact LeO.refl _)
      | (with_reducible exact LeO.none _)
      | (with_reducible refine LeO.ite ?_ ?_)
      | (with_reducible refine LeO.bind ?_ (fun _ => ?_))
      | exact ih0 _ _ _
      | exact LeO.none _
      | refine LeO.ite ?_ ?_
      | refine LeO.bind ?_ (fun _ => ?_)
theorem psalteryref19_Nonzero.mono : ∀ a0 k, LeO (psalteryref19_Nonzero.f k a0) (psalteryref19_Nonzero.f (k + 1) a0) := by
  intro a0 k
  have ih0 := psalteryref19_Nonzero.mono_l k
  unfold psalteryref19_Nonzero.f
  repeat' first
      | (with_reducible exact ih0 _ _ _)
      | (with_reducible exact LeO.refl _)
      | (with_reducible exact LeO.none _)
      | (with_reducible refine LeO.ite ?_ ?_)
      | (with_reducible refine LeO.bind ?_ (fun _ => ?_))
      | exact ih0 _ _ _
      | exact LeO.none _
      | refine LeO.ite ?_ ?_
      | refine LeO.bind ?_ (fun _ => ?_)
set_option maxHeartbeats 8000000 in
set_option maxRecDepth 100000 in
theorem psalteryref19_Nonzero.calls (k : Nat) (A0 : Option Addr) (c0 : Nat) (l0 : List Int) (r : Int) (w : World) (hr0 : Kd.C (Kd.int .i64) w A0 l0.length l0) (hc0 : l0.length ≤ c0) (h : psalteryref19_Nonzero.f k l0 = some r) :
    Calls Try.prog 69 #[.slice A0 l0.length c0] w fun e w' => e = .returned (.int .i64 r) ∧ Drawn0 w w' := by
  have HR0 := Aside0.mk hr0
  have HC0 := Aside0.mk hc0
  clear hr0 hc0
  have H : (psalteryref19_Nonzero.l0 k l0 0 0) = some r := h
  clear h
  have H' := Aside0.mk H
  clear H
  go_enter Try.func69, Try.ntmps69
  go_wp2
  go_loopg [3, 4] k (fun kq v3 v4 w' => ∃ (x3_1 : Int) (x4_1 : Int), v3 = .int .i64 x3_1 ∧ v4 = .int .i64 x4_1 ∧ Aside0 (psalteryref19_Nonzero.l0 kq l0 x3_1 x4_1 = some r) ∧ Aside0 (kq ≤ k) ∧ Drawn0 w w')
  case atStart => exact ⟨(0), (0), (by first | rfl | (simp; done) | (simp [*]; done)), (by first | rfl | (simp; done) | (simp [*]; done)), H', ⟨Nat.le_refl _⟩, by repeat (first | exact Drawn0.refl _ | apply Drawn0.step)⟩
  case round =>
    clear H'
    obtain ⟨x3_1, x4_1, rfl, rfl, HA, HK1, ⟨m1, rfl⟩⟩ := hrel
    cases gk with
    | zero => exact absurd HA.out (by simp [psalteryref19_Nonzero.l0])
    | succ k1 =>
      have H := HA.out
      clear HA
      simp only [psalteryref19_Nonzero.l0] at H
      by_cases c2 : x4_1 < (l0.length : Int)
      · rw [if_pos c2] at H
        have c2b0 : decide (x4_1 < (l0.length : Int)) = true := decide_eq_true c2
        clear c2
        by_cases c3 : 0 ≤ x4_1
        · rw [if_pos c3] at H
          have c3b0 : decide (0 ≤ x4_1) = true := decide_eq_true c3
          clear c3
          by_cases c4 : (rd l0 x4_1) = 0
          · rw [if_pos c4] at H
            have c4b0 : ((rd l0 x4_1) == 0) = true := beq_iff_eq.mpr c4
            have c4b1 : ((rd l0 x4_1) != 0) = false := bne_eq_false_iff_eq.mpr c4
            clear c4
            have H' := Aside0.mk H
            clear H
            have p240 : 0 ≤ (x4_1 : Int) := of_decide_eq_true (by first | (with_reducible assumption) | assumption)
            have q240 : x4_1 < (l0.length : Int) := of_decide_eq_true (by first | (with_reducible assumption) | assumption)
            obtain ⟨ad240, e240, hx240_0⟩ := Kd.at_int HR0.out x4_1 p240 q240
            cases e240
            replace p240 := eq_true p240
            replace q240 := eq_true q240
            go_wp2
            go_roundg k1
            case measure => have := HK1.out; omega
            case rel => exact ⟨(x3_1), (wrap64 (x4_1 + 1)), (by first | rfl | (simp; done) | (simp [*]; done)), (by first | rfl | (simp; done) | (simp [*]; done)), H', ⟨by have := HK1.out; omega⟩, by repeat (first | exact Drawn0.refl _ | apply Drawn0.step)⟩
          · rw [if_neg c4] at H
            have c4b0 : ((rd l0 x4_1) == 0) = false := beq_eq_false_iff_ne.mpr c4
            have c4b1 : ((rd l0 x4_1) != 0) = true := bne_iff_ne.mpr c4
            have H' := Aside0.mk H
            clear H
            have p240 : 0 ≤ (x4_1 : Int) := of_decide_eq_true (by first | (with_reducible assumption) | assumption)
            have q240 : x4_1 < (l0.length : Int) := of_decide_eq_true (by first | (with_reducible assumption) | assumption)
            obtain ⟨ad240, e240, hx240_0⟩ := Kd.at_int HR0.out x4_1 p240 q240
            cases e240
            replace p240 := eq_true p240
            replace q240 := eq_true q240
            go_wp2
            go_roundg k1
            case measure => have := HK1.out; omega
            case rel => exact ⟨(wrap64 (x3_1 + 1)), (wrap64 (x4_1 + 1)), (by first | rfl | (simp; done) | (simp [*]; done)), (by first | rfl | (simp; done) | (simp [*]; done)), H', ⟨by have := HK1.out; omega⟩, by repeat (first | exact Drawn0.refl _ | apply Drawn0.step)⟩
        · rw [if_neg c3] at H
          exact absurd H (by simp)
      · rw [if_neg c2] at H
        have c2b0 : decide (x4_1 < (l0.length : Int)) = false := decide_eq_false c2
        clear c2
        obtain rfl := Option.some.inj H
        go_wp2
        go_ret
        exact ⟨by first | rfl | (simp; done) | (simp [*]; done), by repeat (first | exact Drawn0.refl _ | apply Drawn0.step)⟩

end Go.Proofs.Ytfipchhpnnjkeaa.PGain
