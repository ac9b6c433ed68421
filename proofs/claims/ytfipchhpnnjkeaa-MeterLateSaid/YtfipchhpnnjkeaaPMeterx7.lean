/- Contracts of the functions that the law Meter reaches: each Go function as a Lean function, and that the Go text comes to it. Written by programs (wip/tools), out of the program's own loaded form. -/
import Derived.Test.YtfipchhpnnjkeaaPMeterx0
import Derived.Test.YtfipchhpnnjkeaaPMeterx1
import Derived.Test.YtfipchhpnnjkeaaPMeterx2
import Derived.Test.YtfipchhpnnjkeaaPMeterx5
namespace Go.Proofs.Ytfipchhpnnjkeaa.PMeter
open Go.RowKit Go.Proofs.YtfipchhpnnjkeaaW.PrintWords Go.Proofs.YtfipchhpnnjkeaaW.PrintLast Go.Proofs.YtfipchhpnnjkeaaW.PrintMore
attribute [local go_sem] max2_int min2_int max_two min_two max_three min_three max_four min_four   -- for this text's walks alone
set_option linter.unusedVariables false
set_option linter.unusedSimpArgs false

/-! ### psalterylaw31_MeterLate: function 11 -/
mutual
def psalterylaw31_MeterLate.j0 : Nat → List Int → Int → Int → List Int → Bool → Option (Bool)
  | 0, _, _, _, _, _ => none
  | k + 1, x0, x1, x2, x3, x27 => if x27 = true then (some true) else (if 0 ≤ (Int.tmod (wrap64 (x1)) 40) then (if (Int.tmod (wrap64 (x1)) 40 : Int).toNat ≤ 140737488355328 then ((some (List.replicate (Int.tmod (wrap64 (x1)) 40 : Int).toNat 0 : List Int)).bind fun y207 => (if y207.length + x0.length < 70368744177664 then ((meter_Delay.f k x0 (y207 ++ x0) (wrap64 ((Int.tmod (wrap64 (x1)) 40) + (Int.tmod (wrap64 (x2)) 40)))).bind fun bt213 => (if bt213.2 = 0 then (if bt213.1 > (Int.tmod (wrap64 (x1)) 40) then (psalterylaw31_MeterLate.j1 k x0 x3 true) else (psalterylaw31_MeterLate.j1 k x0 x3 (decide (bt213.1 < 0)))) else (psalterylaw31_MeterLate.j1 k x0 x3 true))) else (none))) else (none)) else (none))
def psalterylaw31_MeterLate.j1 : Nat → List Int → List Int → Bool → Option (Bool)
  | 0, _, _, _ => none
  | k + 1, x0, x3, x56 => if x56 = true then (some false) else (if 0 ≤ (x0.length : Int) then (if ((x0.length : Int) : Int).toNat ≤ 140737488355328 then (psalterylaw31_MeterLate.l0 k x0 x3 (List.replicate ((x0.length : Int) : Int).toNat 0) 0) else (none)) else (none))
def psalterylaw31_MeterLate.l0 : Nat → List Int → List Int → List Int → Int → Option (Bool)
  | 0, _, _, _, _ => none
  | k + 1, x0, x3, x13, x14 => if x14 < (x0.length : Int) then (if 0 ≤ x14 then (if x14 < (x13.length : Int) then (psalterylaw31_MeterLate.l0 k x0 x3 (x13.set (x14 : Int).toNat (IntKind.i16.wrap (Int.tdiv (rd x0 x14) 2))) (wrap64 (x14 + 1))) else (none)) else (none)) else ((meter_Level.f k x13).bind fun t220 => ((meter_Level.f k x0).bind fun t221 => (if t220 > t221 then (psalterylaw31_MeterLate.j3 k x0 true) else ((meter_Ratio.f k x0 x0).bind fun t222 => ((meter_Ratio.f k x0 x3).bind fun t223 => (if t222 < t223 then (psalterylaw31_MeterLate.j3 k x0 (decide ((x3.length : Int) ≥ (x0.length : Int)))) else (psalterylaw31_MeterLate.j3 k x0 false)))))))
def psalterylaw31_MeterLate.j3 : Nat → List Int → Bool → Option (Bool)
  | 0, _, _ => none
  | k + 1, x0, x94 => if x94 = true then (some false) else ((meter_Still.f k x0).bind fun bt224 => (psalterylaw31_MeterLate.l1 k x0 bt224.1 bt224.2 bt224.1))
def psalterylaw31_MeterLate.l1 : Nat → List Int → Int → Int → Int → Option (Bool)
  | 0, _, _, _, _ => none
  | k + 1, x0, x15, x16, x17 => if x17 < (wrap64 (x15 + x16)) then (if x17 ≥ (x0.length : Int) then (some false) else (if 0 ≤ x17 then (if x17 < (x0.length : Int) then (if (rd x0 x17) = 0 then (psalterylaw31_MeterLate.l1 k x0 x15 x16 (wrap64 (x17 + 1))) else (some false)) else (none)) else (none))) else (if x15 ≥ 0 then (some (decide (x16 ≥ 0))) else (some false))
end
def psalterylaw31_MeterLate.f (k : Nat) (l0 : List Int) (a1 : Int) (a2 : Int) (l3 : List Int) : Option (Bool) := (psalterylaw31_alive.f k).bind fun t206 => (if t206 = true then (if (l0.length : Int) > 150 then (psalterylaw31_MeterLate.j0 k l0 a1 a2 l3 true) else (psalterylaw31_MeterLate.j0 k l0 a1 a2 l3 (decide ((l3.length : Int) > 150)))) else (some false))
theorem psalterylaw31_MeterLate.mono_l : ∀ k, (∀ y0 y1 y2 y3 y4, LeO (psalterylaw31_MeterLate.j0 k y0 y1 y2 y3 y4) (psalterylaw31_MeterLate.j0 (k + 1) y0 y1 y2 y3 y4)) ∧ (∀ y0 y1 y2, LeO (psalterylaw31_MeterLate.j1 k y0 y1 y2) (psalterylaw31_MeterLate.j1 (k + 1) y0 y1 y2)) ∧ (∀ y0 y1 y2 y3, LeO (psalterylaw31_MeterLate.l0 k y0 y1 y2 y3) (psalterylaw31_MeterLate.l0 (k + 1) y0 y1 y2 y3)) ∧ (∀ y0 y1, LeO (psalterylaw31_MeterLate.j3 k y0 y1) (psalterylaw31_MeterLate.j3 (k + 1) y0 y1)) ∧ (∀ y0 y1 y2 y3, LeO (psalterylaw31_MeterLate.l1 k y0 y1 y2 y3) (psalterylaw31_MeterLate.l1 (k + 1) y0 y1 y2 y3))
  | 0 => ⟨fun _ _ _ _ _ r h => by simp [psalterylaw31_MeterLate.j0] at h, fun _ _ _ r h => by simp [psalterylaw31_MeterLate.j1] at h, fun _ _ _ _ r h => by simp [psalterylaw31_MeterLate.l0] at h, fun _ _ r h => by simp [psalterylaw31_MeterLate.j3] at h, fun _ _ _ _ r h => by simp [psalterylaw31_MeterLate.l1] at h⟩
  | k + 1 => by
    obtain ⟨ih0, ih1, ih2, ih3, ih4⟩ := psalterylaw31_MeterLate.mono_l k
    refine ⟨?_, ?_, ?_, ?_, ?_⟩
    · intro y0 y1 y2 y3 y4
      unfold psalterylaw31_MeterLate.j0
      repeat' first
      | (with_reducible exact ih0 _ _ _ _ _)
      | (with_reducible exact ih1 _ _ _)
      | (with_reducible exact ih2 _ _ _ _)
      | (with_reducible exact ih3 _ _)
      | (with_reducible exact ih4 _ _ _ _)
      | (with_reducible exact meter_Delay.mono _ _ _ _)
      | (with_reducible exact meter_Level.mono _ _)
      | (with_reducible exact meter_Ratio.mono _ _ _)
      | (with_reducible exact meter_Still.mono _ _)
      | (with_reducible exact psalterylaw31_alive.mono _)
      | (with_reducible exact LeO.refl _)
      | (with_reducible exact LeO.none _)
      | (with_reducible refine LeO.ite ?_ ?_)
      | (with_reducible refine LeO.bind ?_ (fun _ => ?_))
      | exact ih0 _ _ _ _ _
      | exact ih1 _ _ _
      | exact ih2 _ _ _ _
      | exact ih3 _ _
      | exact ih4 _ _ _ _
      | exact meter_Delay.mono _ _ _ _
      | exact meter_Level.mono _ _
      | exact meter_Ratio.mono _ _ _
      | exact meter_Still.mono _ _
      | exact psalterylaw31_alive.mono _
      | exact LeO.none _
      | refine LeO.ite ?_ ?_
      | refine LeO.bind ?_ (fun _ => ?_)
    · intro y0 y1 y2
      unfold psalterylaw31_MeterLate.j1
      repeat' first
      | (with_reducible exact ih0 _ _ _ _ _)
      | (with_reducible exact ih1 _ _ _)
      | (with_reducible exact ih2 _ _ _ _)
      | (with_reducible exact ih3 _ _)
      | (with_reducible exact ih4 _ _ _ _)
      | (with_reducible exact meter_Delay.mono _ _ _ _)
      | (with_reducible exact meter_Level.mono _ _)
      | (with_reducible exact meter_Ratio.mono _ _ _)
      | (with_reducible exact meter_Still.mono _ _)
      | (with_reducible exact psalterylaw31_alive.mono _)
      | (with_reducible exact LeO.refl _)
      | (with_reducible exact LeO.none _)
      | (with_reducible refine LeO.ite ?_ ?_)
      | (with_reducible refine LeO.bind ?_ (fun _ => ?_))
      | exact ih0 _ _ _ _ _
      | exact ih1 _ _ _
      | exact ih2 _ _ _ _
      | exact ih3 _ _
      | exact ih4 _ _ _ _
      | exact meter_Delay.mono _ _ _ _
      | exact meter_Level.mono _ _
      | exact meter_Ratio.mono _ _ _
      | exact meter_Still.mono _ _
      | exact psalterylaw31_alive.mono _
      | exact LeO.none _
      | refine LeO.ite ?_ ?_
      | refine LeO.bind ?_ (fun _ => ?_)
    · intro y0 y1 y2 y3
      unfold psalterylaw31_MeterLate.l0
      repeat' first
      | (with_reducible exact ih0 _ _ _ _ _)
      | (with_reducible exact ih1 _ _ _)
      | (with_reducible exact ih2 _ _ _ _)
      | (with_reducible exact ih3 _ _)
      | (with_reducible exact ih4 _ _ _ _)
      | (with_reducible exact meter_Delay.mono _ _ _ _)
      | (with_reducible exact meter_Level.mono _ _)
      | (with_reducible exact meter_Ratio.mono _ _ _)
      | (with_reducible exact meter_Still.mono _ _)
      | (with_reducible exact psalterylaw31_alive.mono _)
      | (with_reducible exact LeO.refl _)
      | (with_reducible exact LeO.none _)
      | (with_reducible refine LeO.ite ?_ ?_)
      | (with_reducible refine LeO.bind ?_ (fun _ => ?_))
      | exact ih0 _ _ _ _ _
      | exact ih1 _ _ _
      | exact ih2 _ _ _ _
      | exact ih3 _ _
      | exact ih4 _ _ _ _
      | exact meter_Delay.mono _ _ _ _
      | exact meter_Level.mono _ _
      | exact meter_Ratio.mono _ _ _
      | exact meter_Still.mono _ _
      | exact psalterylaw31_alive.mono _
      | exact LeO.none _
      | refine LeO.ite ?_ ?_
      | refine LeO.bind ?_ (fun _ => ?_)
    · intro y0 y1
      unfold psalterylaw31_MeterLate.j3
      repeat' first
      | (with_reducible exact ih0 _ _ _ _ _)
      | (with_reducible exact ih1 _ _ _)
      | (with_reducible exact ih2 _ _ _ _)
      | (with_reducible exact ih3 _ _)
      | (with_reducible exact ih4 _ _ _ _)
      | (with_reducible exact meter_Delay.mono _ _ _ _)
      | (with_reducible exact meter_Level.mono _ _)
      | (with_reducible exact meter_Ratio.mono _ _ _)
      | (with_reducible exact meter_Still.mono _ _)
      | (with_reducible exact psalterylaw31_alive.mono _)
      | (with_reducible exact LeO.refl _)
      | (with_reducible exact LeO.none _)
      | (with_reducible refine LeO.ite ?_ ?_)
      | (with_reducible refine LeO.bind ?_ (fun _ => ?_))
      | exact ih0 _ _ _ _ _
      | exact ih1 _ _ _
      | exact ih2 _ _ _ _
      | exact ih3 _ _
      | exact ih4 _ _ _ _
      | exact meter_Delay.mono _ _ _ _
      | exact meter_Level.mono _ _
      | exact meter_Ratio.mono _ _ _
      | exact meter_Still.mono _ _
      | exact psalterylaw31_alive.mono _
      | exact LeO.none _
      | refine LeO.ite ?_ ?_
      | refine LeO.bind ?_ (fun _ => ?_)
    · intro y0 y1 y2 y3
      unfold psalterylaw31_MeterLate.l1
      repeat' first
      | (with_reducible exact ih0 _ _ _ _ _)
      | (with_reducible exact ih1 _ _ _)
      | (with_reducible exact ih2 _ _ _ _)
      | (with_reducible exact ih3 _ _)
      | (with_reducible exact ih4 _ _ _ _)
      | (with_reducible exact meter_Delay.mono _ _ _ _)
      | (with_reducible exact meter_Level.mono _ _)
      | (with_reducible exact meter_Ratio.mono _ _ _)
      | (with_reducible exact meter_Still.mono _ _)
      | (with_reducible exact psalterylaw31_alive.mono _)
      | (with_reducible exact LeO.refl _)
      | (with_reducible exact LeO.none _)
      | (with_reducible refine LeO.ite ?_ ?_)
      | (with_reducible refine LeO.bind ?_ (fun _ => ?_))
      | exact ih0 _ _ _ _ _
      | exact ih1 _ _ _
      | exact ih2 _ _ _ _
      | exact ih3 _ _
      | exact ih4 _ _ _ _
      | exact meter_Delay.mono _ _ _ _
      | exact meter_Level.mono _ _
      | exact meter_Ratio.mono _ _ _
      | exact meter_Still.mono _ _
      | exact psalterylaw31_alive.mono _
      | exact LeO.none _
      | refine LeO.ite ?_ ?_
      | refine LeO.bind ?_ (fun _ => ?_)
theorem psalterylaw31_MeterLate.mono : ∀ a0 a1 a2 a3 k, LeO (psalterylaw31_MeterLate.f k a0 a1 a2 a3) (psalterylaw31_MeterLate.f (k + 1) a0 a1 a2 a3) := by
  intro a0 a1 a2 a3 k
  obtain ⟨ih0, ih1, ih2, ih3, ih4⟩ := psalterylaw31_MeterLate.mono_l k
  unfold psalterylaw31_MeterLate.f
  repeat' first
      | (with_reducible exact ih0 _ _ _ _ _)
      | (with_reducible exact ih1 _ _ _)
      | (with_reducible exact ih2 _ _ _ _)
      | (with_reducible exact ih3 _ _)
      | (with_reducible exact ih4 _ _ _ _)
      | (with_reducible exact meter_Delay.mono _ _ _ _)
      | (with_reducible exact meter_Level.mono _ _)
      | (with_reducible exact meter_Ratio.mono _ _ _)
      | (with_reducible exact meter_Still.mono _ _)
      | (with_reducible exact psalterylaw31_alive.mono _)
      | (with_reducible exact LeO.refl _)
      | (with_reducible exact LeO.none _)
      | (with_reducible refine LeO.ite ?_ ?_)
      | (with_reducible refine LeO.bind ?_ (fun _ => ?_))
      | exact ih0 _ _ _ _ _
      | exact ih1 _ _ _
      | exact ih2 _ _ _ _
      | exact ih3 _ _
      | exact ih4 _ _ _ _
      | exact meter_Delay.mono _ _ _ _
      | exact meter_Level.mono _ _
      | exact meter_Ratio.mono _ _ _
      | exact meter_Still.mono _ _
      | exact psalterylaw31_alive.mono _
      | exact LeO.none _
      | refine LeO.ite ?_ ?_
      | refine LeO.bind ?_ (fun _ => ?_)
set_option maxHeartbeats 8000000 in
set_option maxRecDepth 100000 in
theorem psalterylaw31_MeterLate.calls (k : Nat) (A0 : Option Addr) (c0 : Nat) (l0 : List Int) (a1 : Int) (a2 : Int) (A3 : Option Addr) (c3 : Nat) (l3 : List Int) (r : Bool) (w : World) (hr0 : Kd.C (Kd.int .i16) w A0 l0.length l0) (hc0 : l0.length ≤ c0) (hr3 : Kd.C (Kd.int .i16) w A3 l3.length l3) (hc3 : l3.length ≤ c3) (h : psalterylaw31_MeterLate.f k l0 a1 a2 l3 = some r) :
    Calls Try.prog 11 #[.slice A0 l0.length c0, .int .u8 a1, .int .u8 a2, .slice A3 l3.length c3] w fun e w' => e = .returned (.bool r) ∧ Below w.heap.size w w' := by
  have HR0 := Aside0.mk hr0
  have HC0 := Aside0.mk hc0
  clear hr0 hc0
  have HR3 := Aside0.mk hr3
  have HC3 := Aside0.mk hc3
  clear hr3 hc3
  have HB := Aside0.mk (Below.refl w.heap.size w)
  have H : ((psalterylaw31_alive.f k).bind fun t206 => (if t206 = true then (if (l0.length : Int) > 150 then (psalterylaw31_MeterLate.j0 k l0 a1 a2 l3 true) else (psalterylaw31_MeterLate.j0 k l0 a1 a2 l3 (decide ((l3.length : Int) > 150)))) else (some false))) = some r := h
  clear h
  replace H := Option.bind_eq_some_iff.mp H
  obtain ⟨t206, A50, H⟩ := H
  replace H : (if t206 = true then (if (l0.length : Int) > 150 then (psalterylaw31_MeterLate.j0 k l0 a1 a2 l3 true) else (psalterylaw31_MeterLate.j0 k l0 a1 a2 l3 (decide ((l3.length : Int) > 150)))) else (some false)) = some r := H
  have A5 := Aside0.mk A50
  clear A50
  by_cases c6 : t206 = true
  · subst c6
    have H1 : (if (l0.length : Int) > 150 then (psalterylaw31_MeterLate.j0 k l0 a1 a2 l3 true) else (psalterylaw31_MeterLate.j0 k l0 a1 a2 l3 (decide ((l3.length : Int) > 150)))) = some r := by rw [if_pos rfl] at H; exact H
    clear H
    have H := H1
    clear H1
    have HC7 := Aside0.mk H
    clear H
    go_enter Try.func11, Try.ntmps11
    go_upto_region 3 with (first | ((with_reducible refine gate_callee (f := 30) rfl ?_); refine goesL_ (some 18) rfl rfl Try.func30 (by kernel_rfl) rfl #[] rfl (by (try simp only [List.map_toArray, List.map_cons, List.map_nil]); first | done | rfl | (simp only [List.length_drop, List.length_take]; rfl)) ?_; (with_reducible refine (psalterylaw31_alive.calls k  true _ A5.out).mono ?_); rintro e w8 ⟨rfl, hb⟩; refine ⟨_, rfl, ?_⟩; have n0_ := Aside0.mk (below_step (by repeat (first | (with_reducible first | exact HB.out | apply below_alloc | apply pw_below_drewN | apply below_drew1) | exact HB.out)) hb); clear HB; have HB := n0_; clear n0_; (try clear hb); (try clear hb2); (try clear hk); (try clear hi)))
    (try simp only [Act.put, List.setIfInBounds_toArray, List.set_cons_zero, List.set_cons_succ])
    go_cut [27] (fun v27 wc => ∃ (kq : Nat) (x27_6 : Bool), v27 = .bool x27_6 ∧ Aside0 (psalterylaw31_MeterLate.j0 kq l0 a1 a2 l3 x27_6 = some r) ∧ Aside0 (kq ≤ k) ∧ Aside0 (Below w.heap.size w wc))
    case first =>
      have H := HC7.out
      clear HC7
      by_cases c9 : (l0.length : Int) > 150
      · rw [if_pos c9] at H
        have c9b0 : decide (150 < (l0.length : Int)) = true := decide_eq_true c9
        have c9b1 : decide (150 < l0.length) = true := decide_eq_true (by omega)
        clear c9
        (first | rw [c9b0] | (simp only [i64_w, i32_w]; rw [c9b0]) | skip)
        have H' := Aside0.mk H
        clear H
        go_wp2
        go_meet
        case rel => exact ⟨_, (true), (by first | rfl | (simp; done) | (simp [*]; done)), H', ⟨by first | omega | exact Nat.le_refl _⟩, ⟨by repeat (first | (with_reducible first | exact HB.out | apply below_alloc | apply pw_below_drewN | apply below_drew1) | exact HB.out)⟩⟩
      · rw [if_neg c9] at H
        have c9b0 : decide (150 < (l0.length : Int)) = false := decide_eq_false c9
        have c9b1 : decide (150 < l0.length) = false := decide_eq_false (by omega)
        clear c9
        (first | rw [c9b0] | (simp only [i64_w, i32_w]; rw [c9b0]) | skip)
        have H' := Aside0.mk H
        clear H
        go_wp2
        go_meet
        case rel => exact ⟨_, (decide ((l3.length : Int) > 150)), (by first | rfl | (simp; done) | (simp [*]; done)), H', ⟨by first | omega | exact Nat.le_refl _⟩, ⟨by repeat (first | (with_reducible first | exact HB.out | apply below_alloc | apply pw_below_drewN | apply below_drew1) | exact HB.out)⟩⟩
    case rest =>
      clear HC7
      try clear c1
      try clear p2
      try clear c3
      try clear c6
      try clear c9
      try clear c9b0
      try clear c9b1
      obtain ⟨kq, x27_6, rfl, HA, HJ6, HB⟩ := hcut
      cases kq with
      | zero => exact absurd HA.out (by simp [psalterylaw31_MeterLate.j0])
      | succ kj6 =>
        have H := HA.out
        clear HA
        simp only [psalterylaw31_MeterLate.j0] at H
        by_cases c10 : x27_6 = true
        · subst c10
          have H1 : (some true) = some r := by rw [if_pos rfl] at H; exact H
          clear H
          have H := H1
          clear H1
          obtain rfl := Option.some.inj H
          go_wp2
          go_ret
          exact ⟨by first | rfl | (simp [errW_none, errW_some] <;> rfl) | (simp [*, errW_none, errW_some] <;> rfl), by repeat (first | (with_reducible first | exact HB.out | apply below_alloc | apply pw_below_drewN | apply below_drew1) | exact HB.out)⟩
        · replace c10 := Bool.eq_false_iff.mpr c10
          subst c10
          have H1 : (if 0 ≤ (Int.tmod (wrap64 (a1)) 40) then (if (Int.tmod (wrap64 (a1)) 40 : Int).toNat ≤ 140737488355328 then ((some (List.replicate (Int.tmod (wrap64 (a1)) 40 : Int).toNat 0 : List Int)).bind fun y207 => (if y207.length + l0.length < 70368744177664 then ((meter_Delay.f kj6 l0 (y207 ++ l0) (wrap64 ((Int.tmod (wrap64 (a1)) 40) + (Int.tmod (wrap64 (a2)) 40)))).bind fun bt213 => (if bt213.2 = 0 then (if bt213.1 > (Int.tmod (wrap64 (a1)) 40) then (psalterylaw31_MeterLate.j1 kj6 l0 l3 true) else (psalterylaw31_MeterLate.j1 kj6 l0 l3 (decide (bt213.1 < 0)))) else (psalterylaw31_MeterLate.j1 kj6 l0 l3 true))) else (none))) else (none)) else (none)) = some r := by rw [if_neg (show ¬ (false = true) by decide)] at H; exact H
          clear H
          have H := H1
          clear H1
          obtain ⟨ji11, hji11⟩ : ∃ j_ : Int, (Int.tmod (wrap64 (a1)) 40) = j_ := ⟨_, rfl⟩
          replace H : (if 0 ≤ (ji11) then (if (ji11 : Int).toNat ≤ 140737488355328 then ((some (List.replicate (ji11 : Int).toNat 0 : List Int)).bind fun y207 => (if y207.length + l0.length < 70368744177664 then ((meter_Delay.f kj6 l0 (y207 ++ l0) (wrap64 ((ji11) + (Int.tmod (wrap64 (a2)) 40)))).bind fun bt213 => (if bt213.2 = 0 then (if bt213.1 > (ji11) then (psalterylaw31_MeterLate.j1 kj6 l0 l3 true) else (psalterylaw31_MeterLate.j1 kj6 l0 l3 (decide (bt213.1 < 0)))) else (psalterylaw31_MeterLate.j1 kj6 l0 l3 true))) else (none))) else (none)) else (none)) = some r := by first | (rw [hji11] at H; exact H) | (simp only [hji11] at H ⊢; exact H)
          by_cases c12 : 0 ≤ (ji11)
          · rw [if_pos c12] at H
            have c12b0 := eq_true c12
            have c12b1 : decide (0 ≤ (ji11)) = true := decide_eq_true c12
            clear c12
            by_cases c13 : (ji11 : Int).toNat ≤ 140737488355328
            · rw [if_pos c13] at H
              have c13b0 := eq_true c13
              have c13b1 : decide ((ji11 : Int).toNat ≤ 140737488355328) = true := decide_eq_true c13
              clear c13
              obtain ⟨y207, hy207⟩ : ∃ y_ : List Int, y_ = (List.replicate (ji11 : Int).toNat 0) := ⟨_, rfl⟩
              replace H : (if y207.length + l0.length < 70368744177664 then ((meter_Delay.f kj6 l0 (y207 ++ l0) (wrap64 ((ji11) + (Int.tmod (wrap64 (a2)) 40)))).bind fun bt213 => (if bt213.2 = 0 then (if bt213.1 > (ji11) then (psalterylaw31_MeterLate.j1 kj6 l0 l3 true) else (psalterylaw31_MeterLate.j1 kj6 l0 l3 (decide (bt213.1 < 0)))) else (psalterylaw31_MeterLate.j1 kj6 l0 l3 true))) else (none)) = some r := by first | (rw [hy207]; with_reducible exact H) | (have H2_ := (Option.bind_some _ _).symm.trans H; rw [hy207]; with_reducible exact H2_) | (have H2_ := (Option.bind_some _ _).symm.trans H; with_reducible exact H2_) | with_reducible exact H | (rw [hy207]; exact H) | exact H
              have Ny207 := Aside0.mk hy207
              clear hy207
              by_cases c14 : y207.length + l0.length < 70368744177664
              · rw [if_pos c14] at H
                have LMc14 := Aside0.mk c14
                clear c14
                obtain ⟨y210, hy210⟩ : ∃ y_ : List Int, y_ = (y207 ++ l0) := ⟨_, rfl⟩
                replace H : ((meter_Delay.f kj6 l0 y210 (wrap64 ((ji11) + (Int.tmod (wrap64 (a2)) 40)))).bind fun bt213 => (if bt213.2 = 0 then (if bt213.1 > (ji11) then (psalterylaw31_MeterLate.j1 kj6 l0 l3 true) else (psalterylaw31_MeterLate.j1 kj6 l0 l3 (decide (bt213.1 < 0)))) else (psalterylaw31_MeterLate.j1 kj6 l0 l3 true))) = some r := by first | (rw [hy210]; with_reducible exact H) | (have H2_ := (Option.bind_some _ _).symm.trans H; rw [hy210]; with_reducible exact H2_) | (have H2_ := (Option.bind_some _ _).symm.trans H; with_reducible exact H2_) | with_reducible exact H | (rw [hy210]; exact H) | exact H
                have Ny210 := Aside0.mk hy210
                clear hy210
                replace H := Option.bind_eq_some_iff.mp H
                obtain ⟨⟨t213, t214⟩, A150, H⟩ := H
                replace H : (if t214 = 0 then (if t213 > (ji11) then (psalterylaw31_MeterLate.j1 kj6 l0 l3 true) else (psalterylaw31_MeterLate.j1 kj6 l0 l3 (decide (t213 < 0)))) else (psalterylaw31_MeterLate.j1 kj6 l0 l3 true)) = some r := H
                have A15 := Aside0.mk A150
                clear A150
                have HC16 := Aside0.mk H
                clear H
                go_upto_region 8 with (first | ((with_reducible refine gate_dst (N := 32) rfl ?_); (try (refine gate_guard (by rfl) ?_; dsimp only)); refine Kd.R_make (Kd.int .i16) _ 56 rfl (N := 32) rfl 50 _ _ rfl ji11 rfl rfl Try.underlying50 (.int .i16 0) 2 info56 rfl (by decide) (by omega) 0 (ok := fun _ => True) (okp := fun _ => True) rfl (fun _ hk => hk) trivial (of_decide_eq_true (by first | (with_reducible assumption) | assumption)) (Nat.le_trans (Nat.mul_le_mul_right _ (of_decide_eq_true (by first | (with_reducible assumption) | assumption) : ji11.toNat ≤ 140737488355328)) (by omega)) (Below.refl _ _) (Nat.le_refl _) ?_; intro v208 w17 ho18 hb hg_ hnew_; clear hg_ hnew_; (first | rw [← Ny207.out] at ho18 | (simp only [Int.reduceToNat] at ho18; rw [← Ny207.out] at ho18)); have n0_ := Aside0.mk (Kd.R_lower ho18 (below_size (by repeat (first | (with_reducible first | exact HB.out | apply below_alloc | apply pw_below_drewN | apply below_drew1) | exact HB.out)))); have n1_ := Aside0.mk (below_step (by repeat (first | (with_reducible first | exact HB.out | apply below_alloc | apply pw_below_drewN | apply below_drew1) | exact HB.out)) hb); clear HB; have HO209 := n0_; have HB := n1_; clear n0_ n1_; clear hb ho18) | ((with_reducible refine gate_builtin (b := .append) (xs := #[.tmp 32, .tmp 33]) rfl ?_); (try (refine gate_guard (by rfl) ?_; dsimp only)); at_builtin; refine Kd.R_append_rows (Kd.int .i16) (w0 := w) w.heap.size rfl (.tmp 32) (.tmp 33) 50 56 (.int .i16 0) 2 rfl Try.underlying50 info56 rfl (by decide) (by omega) v208 y207 l0 _ _ _ (fun _ => True) (fun _ => False) rfl rfl ?aO ?aR (fun _ _ h => h) (fun _ h => h.elim) ?aF ?aB ?aS ?aL ?_; (case aR => repeat (first | exact (Kd.C_below HR0.out HB.out) | (with_reducible refine Kd.C_alloc ?_ _) | (with_reducible refine Kd.C_drewN ?_ _) | (with_reducible refine Kd.C_drew ?_))); (case aB => exact (by repeat (first | (with_reducible first | exact HB.out | apply below_alloc | apply pw_below_drewN | apply below_drew1) | exact HB.out))); (case aF => exact (fun _ _ => trivial)); (case aO => exact (by (with_reducible repeat (first | apply Kd.R_alloc | apply Kd.R_drewN | apply Kd.R_drew)); exact HO209.out)); (case aS => exact (below_size (by repeat (first | (with_reducible first | exact HB.out | apply below_alloc | apply pw_below_drewN | apply below_drew1) | exact HB.out)))); (case aL => have := LMc14.out; omega); intro v211 w19 ho hb hg hat; rw [← Ny210.out] at ho; have n0_ := Aside0.mk (hb); have n1_ := Aside0.mk (ho); clear HB; clear HO209; have HB := n0_; have HO212 := n1_; clear n0_ n1_; clear ho hb hg hat; obtain ⟨Ao20, co20, eo20⟩ := Kd.R_slice HO212.out; subst eo20) | ((with_reducible refine gate_callee (f := 31) rfl ?_); refine goesL_ (some 43) rfl rfl Try.func31 (by kernel_rfl) rfl #[.slice A0 l0.length c0, .slice Ao20 y210.length co20, .int .i64 (wrap64 ((ji11) + (Int.tmod (wrap64 (a2)) 40)))] rfl (by (try simp only [List.map_toArray, List.map_cons, List.map_nil]); first | done | (simp only [hji11]; rfl) | rfl | (simp only [List.length_drop, List.length_take]; rfl)) ?_; (with_reducible refine (meter_Delay.calls kj6 _ _ l0 _ _ y210 (wrap64 ((ji11) + (Int.tmod (wrap64 (a2)) 40))) t213 t214 _ ?side1 ?side2 ?side3 ?side4 A15.out).mono ?_); (case side1 => repeat (first | exact (Kd.C_below HR0.out HB.out) | (with_reducible refine Kd.C_alloc ?_ _) | (with_reducible refine Kd.C_drewN ?_ _) | (with_reducible refine Kd.C_drew ?_))); (case side2 => exact HC0.out); (case side3 => repeat (first | exact (Kd.R_reads' HO212.out).2.2 | (with_reducible refine Kd.C_alloc ?_ _) | (with_reducible refine Kd.C_drewN ?_ _) | (with_reducible refine Kd.C_drew ?_))); (case side4 => exact (Kd.R_reads' HO212.out).2.1); rintro e w' ⟨rfl, ⟨nd, rfl⟩⟩; refine ⟨_, rfl, ?_⟩))
                (try simp only [Act.put, List.setIfInBounds_toArray, List.set_cons_zero, List.set_cons_succ])
                go_cut [56] (fun v56 wc => ∃ (kq : Nat) (x56_15 : Bool), v56 = .bool x56_15 ∧ Aside0 (psalterylaw31_MeterLate.j1 kq l0 l3 x56_15 = some r) ∧ Aside0 (kq ≤ kj6) ∧ Aside0 (Below w.heap.size w wc))
                case first =>
                  have H := HC16.out
                  clear HC16
                  by_cases c21 : t214 = 0
                  · rw [if_pos c21] at H
                    have c21b0 : (t214 == 0) = true := beq_iff_eq.mpr c21
                    have c21b1 : (t214 != 0) = false := bne_eq_false_iff_eq.mpr c21
                    clear c21
                    (first | rw [c21b0] | (simp only [i64_w, i32_w]; rw [c21b0]) | skip)
                    by_cases c22 : t213 > (ji11)
                    · rw [if_pos c22] at H
                      have c22b0 : decide ((ji11) < t213) = true := decide_eq_true c22
                      clear c22
                      have H' := Aside0.mk H
                      clear H
                      go_wp2
                      go_meet
                      case rel => exact ⟨_, (true), (by first | rfl | (simp; done) | (simp [*]; done)), H', ⟨by have := HJ6.out; first | omega | exact Nat.le_refl _⟩, ⟨by repeat (first | (with_reducible first | exact HB.out | apply below_alloc | apply pw_below_drewN | apply below_drew1) | exact HB.out)⟩⟩
                    · rw [if_neg c22] at H
                      have c22b0 : decide ((ji11) < t213) = false := decide_eq_false c22
                      clear c22
                      have H' := Aside0.mk H
                      clear H
                      go_wp2
                      go_meet
                      case rel => exact ⟨_, (decide (t213 < 0)), (by first | rfl | (simp; done) | (simp [*]; done)), H', ⟨by have := HJ6.out; first | omega | exact Nat.le_refl _⟩, ⟨by repeat (first | (with_reducible first | exact HB.out | apply below_alloc | apply pw_below_drewN | apply below_drew1) | exact HB.out)⟩⟩
                  · rw [if_neg c21] at H
                    have c21b0 : (t214 == 0) = false := beq_eq_false_iff_ne.mpr c21
                    have c21b1 : (t214 != 0) = true := bne_iff_ne.mpr c21
                    (first | rw [c21b0] | (simp only [i64_w, i32_w]; rw [c21b0]) | skip)
                    have H' := Aside0.mk H
                    clear H
                    go_wp2
                    go_meet
                    case rel => exact ⟨_, (true), (by first | rfl | (simp; done) | (simp [*]; done)), H', ⟨by have := HJ6.out; first | omega | exact Nat.le_refl _⟩, ⟨by repeat (first | (with_reducible first | exact HB.out | apply below_alloc | apply pw_below_drewN | apply below_drew1) | exact HB.out)⟩⟩
                case rest =>
                  clear HC16
                  try clear c1
                  try clear c2
                  try clear p2
                  try clear c3
                  try clear c6
                  try clear p6
                  try clear c9
                  try clear c9b0
                  try clear c9b1
                  try clear c10
                  try clear c11
                  try clear c12
                  try clear c12b0
                  try clear c12b1
                  try clear c13
                  try clear c13b0
                  try clear c13b1
                  try clear c14
                  try clear c21
                  try clear c21b0
                  try clear c21b1
                  try clear c22
                  try clear c22b0
                  try clear p2
                  obtain ⟨kq, x56_15, rfl, HA, HJ15, HB⟩ := hcut
                  cases kq with
                  | zero => exact absurd HA.out (by simp [psalterylaw31_MeterLate.j1])
                  | succ kj15 =>
                    have H := HA.out
                    clear HA
                    simp only [psalterylaw31_MeterLate.j1] at H
                    by_cases c23 : x56_15 = true
                    · subst c23
                      have H1 : (some false) = some r := by rw [if_pos rfl] at H; exact H
                      clear H
                      have H := H1
                      clear H1
                      obtain rfl := Option.some.inj H
                      go_wp2
                      go_ret
                      exact ⟨by first | rfl | (simp [errW_none, errW_some] <;> rfl) | (simp only [← hji11]; first | rfl | (simp [errW_none, errW_some] <;> rfl)) | (simp [*, errW_none, errW_some] <;> rfl), by repeat (first | (with_reducible first | exact HB.out | apply below_alloc | apply pw_below_drewN | apply below_drew1) | exact HB.out)⟩
                    · replace c23 := Bool.eq_false_iff.mpr c23
                      subst c23
                      have H1 : (if 0 ≤ (l0.length : Int) then (if ((l0.length : Int) : Int).toNat ≤ 140737488355328 then (psalterylaw31_MeterLate.l0 kj15 l0 l3 (List.replicate ((l0.length : Int) : Int).toNat 0) 0) else (none)) else (none)) = some r := by rw [if_neg (show ¬ (false = true) by decide)] at H; exact H
                      clear H
                      have H := H1
                      clear H1
                      by_cases c24 : 0 ≤ (l0.length : Int)
                      · rw [if_pos c24] at H
                        have c24b0 := eq_true c24
                        have c24b1 : decide (0 ≤ (l0.length : Int)) = true := decide_eq_true c24
                        clear c24
                        by_cases c25 : ((l0.length : Int) : Int).toNat ≤ 140737488355328
                        · rw [if_pos c25] at H
                          have c25b0 := eq_true c25
                          have c25b1 : decide (((l0.length : Int) : Int).toNat ≤ 140737488355328) = true := decide_eq_true c25
                          clear c25
                          obtain ⟨y215, hy215⟩ : ∃ y_ : List Int, y_ = (List.replicate ((l0.length : Int) : Int).toNat 0) := ⟨_, rfl⟩
                          replace H : (psalterylaw31_MeterLate.l0 kj15 l0 l3 y215 0) = some r := by first | (rw [hy215]; with_reducible exact H) | (have H2_ := (Option.bind_some _ _).symm.trans H; rw [hy215]; with_reducible exact H2_) | (have H2_ := (Option.bind_some _ _).symm.trans H; with_reducible exact H2_) | with_reducible exact H | (rw [hy215]; exact H) | exact H
                          have Ny215 := Aside0.mk hy215
                          clear hy215
                          have H' := Aside0.mk H
                          clear H
                          go_wp2_with (first | ((with_reducible refine gate_dst (N := 59) rfl ?_); (try (refine gate_guard (by rfl) ?_; dsimp only)); refine Kd.R_make (Kd.int .i16) _ 56 rfl (N := 59) rfl 50 _ _ rfl (l0.length : Int) rfl rfl Try.underlying50 (.int .i16 0) 2 info56 rfl (by decide) (by omega) 0 (ok := fun _ => True) (okp := fun _ => True) rfl (fun _ hk => hk) trivial (of_decide_eq_true (by first | (with_reducible assumption) | assumption)) (Nat.le_trans (Nat.mul_le_mul_right _ (of_decide_eq_true (by first | (with_reducible assumption) | assumption) : (l0.length : Int).toNat ≤ 140737488355328)) (by omega)) (Below.refl _ _) (Nat.le_refl _) ?_; intro v216 w26 ho27 hb hg_ hnew_; clear hg_ hnew_; (first | rw [← Ny215.out] at ho27 | (simp only [Int.reduceToNat] at ho27; rw [← Ny215.out] at ho27)); have n0_ := Aside0.mk (Kd.R_lower ho27 (below_size (by repeat (first | (with_reducible first | exact HB.out | apply below_alloc | apply pw_below_drewN | apply below_drew1) | exact HB.out)))); have n1_ := Aside0.mk (below_step (by repeat (first | (with_reducible first | exact HB.out | apply below_alloc | apply pw_below_drewN | apply below_drew1) | exact HB.out)) hb); clear HB; have HO217 := n0_; have HB := n1_; clear n0_ n1_; clear hb ho27))
                          go_loopg [14] kj15 (fun kq v14 w' => ∃ (x13_3 : List Int) (x14_3 : Int), v14 = .int .i64 x14_3 ∧ Aside0 (psalterylaw31_MeterLate.l0 kq l0 l3 x13_3 x14_3 = some r) ∧ Aside0 (kq ≤ kj15) ∧ Aside0 (Kd.R (Kd.int .i16) 56 w' w.heap.size (fun _ => True) v216 x13_3) ∧ Aside0 (Below w.heap.size w w'))
                          case atStart => exact ⟨(y215), (0), (by first | rfl | (simp; done) | (simp [*]; done)), H', ⟨Nat.le_refl _⟩, ⟨by (with_reducible repeat (first | apply Kd.R_alloc | apply Kd.R_drewN | apply Kd.R_drew)); exact HO217.out⟩, ⟨by repeat (first | (with_reducible first | exact HB.out | apply below_alloc | apply pw_below_drewN | apply below_drew1) | exact HB.out)⟩⟩
                          case round =>
                            clear H'
                            try clear c1
                            try clear c2
                            try clear p2
                            try clear c3
                            try clear c6
                            try clear p6
                            try clear c9
                            try clear c9b0
                            try clear c9b1
                            try clear c10
                            try clear c11
                            try clear c12
                            try clear c12b0
                            try clear c12b1
                            try clear c13
                            try clear c13b0
                            try clear c13b1
                            try clear c14
                            try clear c21
                            try clear c21b0
                            try clear c21b1
                            try clear c22
                            try clear c22b0
                            try clear c23
                            try clear c24
                            try clear c24b0
                            try clear c24b1
                            try clear c25
                            try clear c25b0
                            try clear c25b1
                            try clear p2
                            try clear p6
                            obtain ⟨x13_3, x14_3, rfl, HA, HK3, HO_13, HB⟩ := hrel
                            cases gk with
                            | zero => exact absurd HA.out (by simp [psalterylaw31_MeterLate.l0])
                            | succ k3 =>
                              have H := HA.out
                              clear HA
                              simp only [psalterylaw31_MeterLate.l0] at H
                              by_cases c28 : x14_3 < (l0.length : Int)
                              · rw [if_pos c28] at H
                                have c28b0 : decide (x14_3 < (l0.length : Int)) = true := decide_eq_true c28
                                clear c28
                                by_cases c29 : 0 ≤ x14_3
                                · rw [if_pos c29] at H
                                  have c29b0 : decide (0 ≤ x14_3) = true := decide_eq_true c29
                                  clear c29
                                  by_cases c30 : x14_3 < (x13_3.length : Int)
                                  · rw [if_pos c30] at H
                                    have c30b0 : decide (x14_3 < (x13_3.length : Int)) = true := decide_eq_true c30
                                    clear c30
                                    obtain ⟨y219, hy219⟩ : ∃ y_ : List Int, y_ = (x13_3.set (x14_3 : Int).toNat (IntKind.i16.wrap (Int.tdiv (rd l0 x14_3) 2))) := ⟨_, rfl⟩
                                    replace H : (psalterylaw31_MeterLate.l0 k3 l0 l3 y219 (wrap64 (x14_3 + 1))) = some r := by first | (rw [hy219]; with_reducible exact H) | (have H2_ := (Option.bind_some _ _).symm.trans H; rw [hy219]; with_reducible exact H2_) | (have H2_ := (Option.bind_some _ _).symm.trans H; with_reducible exact H2_) | with_reducible exact H | (rw [hy219]; exact H) | exact H
                                    have Ny219 := Aside0.mk hy219
                                    clear hy219
                                    have H' := Aside0.mk H
                                    clear H
                                    have p218 : 0 ≤ (x14_3 : Int) := of_decide_eq_true (by first | (with_reducible assumption) | assumption)
                                    have q218 : x14_3 < (l0.length : Int) := of_decide_eq_true (by first | (with_reducible assumption) | assumption)
                                    obtain ⟨ad218, e218, hx218_0⟩ := Kd.at_int HR0.out x14_3 p218 q218
                                    cases e218
                                    replace hx218_0 := (HB.out.cell (World.block_lt_of_cell? w _ hx218_0)).trans hx218_0
                                    replace p218 := eq_true p218
                                    replace q218 := eq_true q218
                                    have p31 : 0 ≤ (x14_3 : Int) := of_decide_eq_true (by first | (with_reducible assumption) | assumption)
                                    have q31 : (x14_3 : Int) < ((x13_3.length : Int) : Int) := of_decide_eq_true (by first | (with_reducible assumption) | assumption)
                                    obtain ⟨go31, co31, eo31, gb31, gl31, cl31, HG31⟩ := Kd.R_form HO_13.out (by omega)
                                    (first | cases eo31 | (injection eo31 with ea_ en_ ec_; (first | subst ea_ | (injection ea_ with ea_; subst ea_)); subst ec_; clear en_))
                                    have GB31 := Aside0.mk gb31
                                    have GG31 := Aside0.mk HG31
                                    clear gb31 gl31 HG31
                                    obtain ⟨hx31_0, hf31_0⟩ := Kd.R_celln 0 HO_13.out (x14_3 : Int) p31 q31
                                    replace p31 := eq_true p31
                                    replace q31 := eq_true q31
                                    have HP32 := Kd.R_putg HO_13.out (x14_3 : Int) (IntKind.i16.wrap (Int.tdiv (rd l0 x14_3) 2))
                                    go_wp2_with (first | ((with_reducible refine gate_store (t := 56) (p := 73) rfl ?_); refine store_event (t := 56) (p := 73) (v := ?vo_w33) (w1 := (wr.setCell ⟨go31, (x14_3 : Int).toNat, none⟩ (.int .i16 (IntKind.i16.wrap (Int.tdiv (rd l0 x14_3) 2))))) ?hg ?ho ?hn ?hr ?_; (case ho => rfl); (case hg => rfl); (case hn => rfl); (case hr => first | (go_simp; done) | (go_simp; rfl)); intro w33 hw; have hg : wr.grownBy w33 (some go31) := (by rw [hw]; exact HP32.2); have hp_ : Kd.R (Kd.int .i16) 56 w33 w.heap.size (fun _ => True) (.slice (some ⟨go31, 0, none⟩) x13_3.length co31) y219 := (by rw [hw, Ny219.out]; exact HP32.1); clear HP32; have n0_ := Aside0.mk (hp_); have n1_ := Aside0.mk ((by rw [hw]; exact below_set (HB.out) GB31.out : Below w.heap.size w w33)); clear HO_13; clear HB; have HO_13 := n0_; have HB := n1_; clear n0_ n1_; clear hg hw hp_))
                                    go_roundg k3
                                    case measure => have := HJ6.out; have := HJ15.out; have := HK3.out; omega
                                    case rel => exact ⟨(y219), (wrap64 (x14_3 + 1)), (by first | rfl | (simp; done) | (simp [*]; done)), H', ⟨by have := HJ6.out; have := HJ15.out; have := HK3.out; omega⟩, ⟨by (with_reducible repeat (first | apply Kd.R_alloc | apply Kd.R_drewN | apply Kd.R_drew)); exact HO_13.out⟩, ⟨by repeat (first | (with_reducible first | exact HB.out | apply below_alloc | apply pw_below_drewN | apply below_drew1) | exact HB.out)⟩⟩
                                  · rw [if_neg c30] at H
                                    exact absurd H (by simp)
                                · rw [if_neg c29] at H
                                  exact absurd H (by simp)
                              · rw [if_neg c28] at H
                                have c28b0 : decide (x14_3 < (l0.length : Int)) = false := decide_eq_false c28
                                clear c28
                                have HC34 := Aside0.mk H
                                clear H
                                go_upto_region 15 with (fail)
                                go_cut [94] (fun v94 wc => ∃ (kq : Nat) (x94_33 : Bool), v94 = .bool x94_33 ∧ Aside0 (psalterylaw31_MeterLate.j3 kq l0 x94_33 = some r) ∧ Aside0 (kq ≤ k3) ∧ Aside0 (Below w.heap.size w wc))
                                case first =>
                                  have H := HC34.out
                                  clear HC34
                                  replace H := Option.bind_eq_some_iff.mp H
                                  obtain ⟨t220, A350, H⟩ := H
                                  replace H : ((meter_Level.f k3 l0).bind fun t221 => (if t220 > t221 then (psalterylaw31_MeterLate.j3 k3 l0 true) else ((meter_Ratio.f k3 l0 l0).bind fun t222 => ((meter_Ratio.f k3 l0 l3).bind fun t223 => (if t222 < t223 then (psalterylaw31_MeterLate.j3 k3 l0 (decide ((l3.length : Int) ≥ (l0.length : Int)))) else (psalterylaw31_MeterLate.j3 k3 l0 false)))))) = some r := H
                                  have A35 := Aside0.mk A350
                                  clear A350
                                  replace H := Option.bind_eq_some_iff.mp H
                                  obtain ⟨t221, A360, H⟩ := H
                                  replace H : (if t220 > t221 then (psalterylaw31_MeterLate.j3 k3 l0 true) else ((meter_Ratio.f k3 l0 l0).bind fun t222 => ((meter_Ratio.f k3 l0 l3).bind fun t223 => (if t222 < t223 then (psalterylaw31_MeterLate.j3 k3 l0 (decide ((l3.length : Int) ≥ (l0.length : Int)))) else (psalterylaw31_MeterLate.j3 k3 l0 false))))) = some r := H
                                  have A36 := Aside0.mk A360
                                  clear A360
                                  by_cases c37 : t220 > t221
                                  · rw [if_pos c37] at H
                                    have c37b0 : decide (t221 < t220) = true := decide_eq_true c37
                                    clear c37
                                    (first | rw [c37b0] | (simp only [i64_w, i32_w]; rw [c37b0]) | skip)
                                    have H' := Aside0.mk H
                                    clear H
                                    obtain ⟨Ao38, co38, eo38⟩ := Kd.R_slice HO_13.out
                                    subst eo38
                                    go_wp2_with (first | ((with_reducible refine gate_callee (f := 35) rfl ?_); refine goesL_ (some 75) rfl rfl Try.func35 (by kernel_rfl) rfl #[.slice Ao38 x13_3.length co38] rfl (by (try simp only [List.map_toArray, List.map_cons, List.map_nil]); first | done | rfl | (simp only [List.length_drop, List.length_take]; rfl)) ?_; (with_reducible refine (meter_Level.calls k3 _ _ x13_3 t220 _ ?side1 ?side2 A35.out).mono ?_); (case side1 => repeat (first | exact (Kd.R_reads' HO_13.out).2.2 | (with_reducible refine Kd.C_alloc ?_ _) | (with_reducible refine Kd.C_drewN ?_ _) | (with_reducible refine Kd.C_drew ?_))); (case side2 => exact (Kd.R_reads' HO_13.out).2.1); rintro e w39 ⟨rfl, hb⟩; refine ⟨_, rfl, ?_⟩; have n0_ := Aside0.mk (Kd.R_below (by (with_reducible repeat (first | apply Kd.R_alloc | apply Kd.R_drewN | apply Kd.R_drew)); exact HO_13.out) hb); have n1_ := Aside0.mk (below_step (by repeat (first | (with_reducible first | exact HB.out | apply below_alloc | apply pw_below_drewN | apply below_drew1) | exact HB.out)) hb); clear HO_13; clear HB; have HO_13 := n0_; have HB := n1_; clear n0_ n1_; (try clear hb); (try clear hb2); (try clear hk); (try clear hi)) | ((with_reducible refine gate_callee (f := 35) rfl ?_); refine goesL_ (some 77) rfl rfl Try.func35 (by kernel_rfl) rfl #[.slice A0 l0.length c0] rfl (by (try simp only [List.map_toArray, List.map_cons, List.map_nil]); first | done | rfl | (simp only [List.length_drop, List.length_take]; rfl)) ?_; (with_reducible refine (meter_Level.calls k3 _ _ l0 t221 _ ?side1 ?side2 A36.out).mono ?_); (case side1 => repeat (first | exact (Kd.C_below HR0.out HB.out) | (with_reducible refine Kd.C_alloc ?_ _) | (with_reducible refine Kd.C_drewN ?_ _) | (with_reducible refine Kd.C_drew ?_))); (case side2 => exact HC0.out); rintro e w40 ⟨rfl, hb⟩; refine ⟨_, rfl, ?_⟩; have n0_ := Aside0.mk (Kd.R_below (by (with_reducible repeat (first | apply Kd.R_alloc | apply Kd.R_drewN | apply Kd.R_drew)); exact HO_13.out) hb); have n1_ := Aside0.mk (below_step (by repeat (first | (with_reducible first | exact HB.out | apply below_alloc | apply pw_below_drewN | apply below_drew1) | exact HB.out)) hb); clear HO_13; clear HB; have HO_13 := n0_; have HB := n1_; clear n0_ n1_; (try clear hb); (try clear hb2); (try clear hk); (try clear hi)))
                                    go_meet
                                    case rel => exact ⟨_, (true), (by first | rfl | (simp; done) | (simp [*]; done)), H', ⟨by have := HJ6.out; have := HJ15.out; have := HK3.out; first | omega | exact Nat.le_refl _⟩, ⟨by repeat (first | (with_reducible first | exact HB.out | apply below_alloc | apply pw_below_drewN | apply below_drew1) | exact HB.out)⟩⟩
                                  · rw [if_neg c37] at H
                                    have c37b0 : decide (t221 < t220) = false := decide_eq_false c37
                                    clear c37
                                    (first | rw [c37b0] | (simp only [i64_w, i32_w]; rw [c37b0]) | skip)
                                    replace H := Option.bind_eq_some_iff.mp H
                                    obtain ⟨t222, A410, H⟩ := H
                                    replace H : ((meter_Ratio.f k3 l0 l3).bind fun t223 => (if t222 < t223 then (psalterylaw31_MeterLate.j3 k3 l0 (decide ((l3.length : Int) ≥ (l0.length : Int)))) else (psalterylaw31_MeterLate.j3 k3 l0 false))) = some r := H
                                    have A41 := Aside0.mk A410
                                    clear A410
                                    replace H := Option.bind_eq_some_iff.mp H
                                    obtain ⟨t223, A420, H⟩ := H
                                    replace H : (if t222 < t223 then (psalterylaw31_MeterLate.j3 k3 l0 (decide ((l3.length : Int) ≥ (l0.length : Int)))) else (psalterylaw31_MeterLate.j3 k3 l0 false)) = some r := H
                                    have A42 := Aside0.mk A420
                                    clear A420
                                    by_cases c43 : t222 < t223
                                    · rw [if_pos c43] at H
                                      have c43b0 : decide (t222 < t223) = true := decide_eq_true c43
                                      clear c43
                                      have H' := Aside0.mk H
                                      clear H
                                      obtain ⟨Ao44, co44, eo44⟩ := Kd.R_slice HO_13.out
                                      subst eo44
                                      go_wp2_with (first | ((with_reducible refine gate_callee (f := 35) rfl ?_); refine goesL_ (some 75) rfl rfl Try.func35 (by kernel_rfl) rfl #[.slice Ao44 x13_3.length co44] rfl (by (try simp only [List.map_toArray, List.map_cons, List.map_nil]); first | done | rfl | (simp only [List.length_drop, List.length_take]; rfl)) ?_; (with_reducible refine (meter_Level.calls k3 _ _ x13_3 t220 _ ?side1 ?side2 A35.out).mono ?_); (case side1 => repeat (first | exact (Kd.R_reads' HO_13.out).2.2 | (with_reducible refine Kd.C_alloc ?_ _) | (with_reducible refine Kd.C_drewN ?_ _) | (with_reducible refine Kd.C_drew ?_))); (case side2 => exact (Kd.R_reads' HO_13.out).2.1); rintro e w45 ⟨rfl, hb⟩; refine ⟨_, rfl, ?_⟩; have n0_ := Aside0.mk (Kd.R_below (by (with_reducible repeat (first | apply Kd.R_alloc | apply Kd.R_drewN | apply Kd.R_drew)); exact HO_13.out) hb); have n1_ := Aside0.mk (below_step (by repeat (first | (with_reducible first | exact HB.out | apply below_alloc | apply pw_below_drewN | apply below_drew1) | exact HB.out)) hb); clear HO_13; clear HB; have HO_13 := n0_; have HB := n1_; clear n0_ n1_; (try clear hb); (try clear hb2); (try clear hk); (try clear hi)) | ((with_reducible refine gate_callee (f := 35) rfl ?_); refine goesL_ (some 77) rfl rfl Try.func35 (by kernel_rfl) rfl #[.slice A0 l0.length c0] rfl (by (try simp only [List.map_toArray, List.map_cons, List.map_nil]); first | done | rfl | (simp only [List.length_drop, List.length_take]; rfl)) ?_; (with_reducible refine (meter_Level.calls k3 _ _ l0 t221 _ ?side1 ?side2 A36.out).mono ?_); (case side1 => repeat (first | exact (Kd.C_below HR0.out HB.out) | (with_reducible refine Kd.C_alloc ?_ _) | (with_reducible refine Kd.C_drewN ?_ _) | (with_reducible refine Kd.C_drew ?_))); (case side2 => exact HC0.out); rintro e w46 ⟨rfl, hb⟩; refine ⟨_, rfl, ?_⟩; have n0_ := Aside0.mk (Kd.R_below (by (with_reducible repeat (first | apply Kd.R_alloc | apply Kd.R_drewN | apply Kd.R_drew)); exact HO_13.out) hb); have n1_ := Aside0.mk (below_step (by repeat (first | (with_reducible first | exact HB.out | apply below_alloc | apply pw_below_drewN | apply below_drew1) | exact HB.out)) hb); clear HO_13; clear HB; have HO_13 := n0_; have HB := n1_; clear n0_ n1_; (try clear hb); (try clear hb2); (try clear hk); (try clear hi)) | (go_at_call 40; (with_reducible refine (meter_Ratio.calls k3 _ _ l0 _ _ l0 t222 _ ?side1 ?side2 ?side3 ?side4 A41.out).mono ?_); (case side1 => repeat (first | exact (Kd.C_below HR0.out HB.out) | (with_reducible refine Kd.C_alloc ?_ _) | (with_reducible refine Kd.C_drewN ?_ _) | (with_reducible refine Kd.C_drew ?_))); (case side2 => exact HC0.out); (case side3 => repeat (first | exact (Kd.C_below HR0.out HB.out) | (with_reducible refine Kd.C_alloc ?_ _) | (with_reducible refine Kd.C_drewN ?_ _) | (with_reducible refine Kd.C_drew ?_))); (case side4 => exact HC0.out); rintro e w47 ⟨rfl, hb⟩; have n0_ := Aside0.mk (Kd.R_below (by (with_reducible repeat (first | apply Kd.R_alloc | apply Kd.R_drewN | apply Kd.R_drew)); exact HO_13.out) hb); have n1_ := Aside0.mk (below_step (by repeat (first | (with_reducible first | exact HB.out | apply below_alloc | apply pw_below_drewN | apply below_drew1) | exact HB.out)) hb); clear HO_13; clear HB; have HO_13 := n0_; have HB := n1_; clear n0_ n1_; (try clear hb); (try clear hb2); (try clear hk); (try clear hi)) | (go_at_call 40; (with_reducible refine (meter_Ratio.calls k3 _ _ l0 _ _ l3 t223 _ ?side1 ?side2 ?side3 ?side4 A42.out).mono ?_); (case side1 => repeat (first | exact (Kd.C_below HR0.out HB.out) | (with_reducible refine Kd.C_alloc ?_ _) | (with_reducible refine Kd.C_drewN ?_ _) | (with_reducible refine Kd.C_drew ?_))); (case side2 => exact HC0.out); (case side3 => repeat (first | exact (Kd.C_below HR3.out HB.out) | (with_reducible refine Kd.C_alloc ?_ _) | (with_reducible refine Kd.C_drewN ?_ _) | (with_reducible refine Kd.C_drew ?_))); (case side4 => exact HC3.out); rintro e w48 ⟨rfl, hb⟩; have n0_ := Aside0.mk (Kd.R_below (by (with_reducible repeat (first | apply Kd.R_alloc | apply Kd.R_drewN | apply Kd.R_drew)); exact HO_13.out) hb); have n1_ := Aside0.mk (below_step (by repeat (first | (with_reducible first | exact HB.out | apply below_alloc | apply pw_below_drewN | apply below_drew1) | exact HB.out)) hb); clear HO_13; clear HB; have HO_13 := n0_; have HB := n1_; clear n0_ n1_; (try clear hb); (try clear hb2); (try clear hk); (try clear hi)))
                                      go_meet
                                      case rel => exact ⟨_, (decide ((l3.length : Int) ≥ (l0.length : Int))), (by first | rfl | (simp; done) | (simp [*]; done)), H', ⟨by have := HJ6.out; have := HJ15.out; have := HK3.out; first | omega | exact Nat.le_refl _⟩, ⟨by repeat (first | (with_reducible first | exact HB.out | apply below_alloc | apply pw_below_drewN | apply below_drew1) | exact HB.out)⟩⟩
                                    · rw [if_neg c43] at H
                                      have c43b0 : decide (t222 < t223) = false := decide_eq_false c43
                                      clear c43
                                      have H' := Aside0.mk H
                                      clear H
                                      obtain ⟨Ao49, co49, eo49⟩ := Kd.R_slice HO_13.out
                                      subst eo49
                                      go_wp2_with (first | ((with_reducible refine gate_callee (f := 35) rfl ?_); refine goesL_ (some 75) rfl rfl Try.func35 (by kernel_rfl) rfl #[.slice Ao49 x13_3.length co49] rfl (by (try simp only [List.map_toArray, List.map_cons, List.map_nil]); first | done | rfl | (simp only [List.length_drop, List.length_take]; rfl)) ?_; (with_reducible refine (meter_Level.calls k3 _ _ x13_3 t220 _ ?side1 ?side2 A35.out).mono ?_); (case side1 => repeat (first | exact (Kd.R_reads' HO_13.out).2.2 | (with_reducible refine Kd.C_alloc ?_ _) | (with_reducible refine Kd.C_drewN ?_ _) | (with_reducible refine Kd.C_drew ?_))); (case side2 => exact (Kd.R_reads' HO_13.out).2.1); rintro e w50 ⟨rfl, hb⟩; refine ⟨_, rfl, ?_⟩; have n0_ := Aside0.mk (Kd.R_below (by (with_reducible repeat (first | apply Kd.R_alloc | apply Kd.R_drewN | apply Kd.R_drew)); exact HO_13.out) hb); have n1_ := Aside0.mk (below_step (by repeat (first | (with_reducible first | exact HB.out | apply below_alloc | apply pw_below_drewN | apply below_drew1) | exact HB.out)) hb); clear HO_13; clear HB; have HO_13 := n0_; have HB := n1_; clear n0_ n1_; (try clear hb); (try clear hb2); (try clear hk); (try clear hi)) | ((with_reducible refine gate_callee (f := 35) rfl ?_); refine goesL_ (some 77) rfl rfl Try.func35 (by kernel_rfl) rfl #[.slice A0 l0.length c0] rfl (by (try simp only [List.map_toArray, List.map_cons, List.map_nil]); first | done | rfl | (simp only [List.length_drop, List.length_take]; rfl)) ?_; (with_reducible refine (meter_Level.calls k3 _ _ l0 t221 _ ?side1 ?side2 A36.out).mono ?_); (case side1 => repeat (first | exact (Kd.C_below HR0.out HB.out) | (with_reducible refine Kd.C_alloc ?_ _) | (with_reducible refine Kd.C_drewN ?_ _) | (with_reducible refine Kd.C_drew ?_))); (case side2 => exact HC0.out); rintro e w51 ⟨rfl, hb⟩; refine ⟨_, rfl, ?_⟩; have n0_ := Aside0.mk (Kd.R_below (by (with_reducible repeat (first | apply Kd.R_alloc | apply Kd.R_drewN | apply Kd.R_drew)); exact HO_13.out) hb); have n1_ := Aside0.mk (below_step (by repeat (first | (with_reducible first | exact HB.out | apply below_alloc | apply pw_below_drewN | apply below_drew1) | exact HB.out)) hb); clear HO_13; clear HB; have HO_13 := n0_; have HB := n1_; clear n0_ n1_; (try clear hb); (try clear hb2); (try clear hk); (try clear hi)) | (go_at_call 40; (with_reducible refine (meter_Ratio.calls k3 _ _ l0 _ _ l0 t222 _ ?side1 ?side2 ?side3 ?side4 A41.out).mono ?_); (case side1 => repeat (first | exact (Kd.C_below HR0.out HB.out) | (with_reducible refine Kd.C_alloc ?_ _) | (with_reducible refine Kd.C_drewN ?_ _) | (with_reducible refine Kd.C_drew ?_))); (case side2 => exact HC0.out); (case side3 => repeat (first | exact (Kd.C_below HR0.out HB.out) | (with_reducible refine Kd.C_alloc ?_ _) | (with_reducible refine Kd.C_drewN ?_ _) | (with_reducible refine Kd.C_drew ?_))); (case side4 => exact HC0.out); rintro e w52 ⟨rfl, hb⟩; have n0_ := Aside0.mk (Kd.R_below (by (with_reducible repeat (first | apply Kd.R_alloc | apply Kd.R_drewN | apply Kd.R_drew)); exact HO_13.out) hb); have n1_ := Aside0.mk (below_step (by repeat (first | (with_reducible first | exact HB.out | apply below_alloc | apply pw_below_drewN | apply below_drew1) | exact HB.out)) hb); clear HO_13; clear HB; have HO_13 := n0_; have HB := n1_; clear n0_ n1_; (try clear hb); (try clear hb2); (try clear hk); (try clear hi)) | (go_at_call 40; (with_reducible refine (meter_Ratio.calls k3 _ _ l0 _ _ l3 t223 _ ?side1 ?side2 ?side3 ?side4 A42.out).mono ?_); (case side1 => repeat (first | exact (Kd.C_below HR0.out HB.out) | (with_reducible refine Kd.C_alloc ?_ _) | (with_reducible refine Kd.C_drewN ?_ _) | (with_reducible refine Kd.C_drew ?_))); (case side2 => exact HC0.out); (case side3 => repeat (first | exact (Kd.C_below HR3.out HB.out) | (with_reducible refine Kd.C_alloc ?_ _) | (with_reducible refine Kd.C_drewN ?_ _) | (with_reducible refine Kd.C_drew ?_))); (case side4 => exact HC3.out); rintro e w53 ⟨rfl, hb⟩; have n0_ := Aside0.mk (Kd.R_below (by (with_reducible repeat (first | apply Kd.R_alloc | apply Kd.R_drewN | apply Kd.R_drew)); exact HO_13.out) hb); have n1_ := Aside0.mk (below_step (by repeat (first | (with_reducible first | exact HB.out | apply below_alloc | apply pw_below_drewN | apply below_drew1) | exact HB.out)) hb); clear HO_13; clear HB; have HO_13 := n0_; have HB := n1_; clear n0_ n1_; (try clear hb); (try clear hb2); (try clear hk); (try clear hi)))
                                      go_meet
                                      case rel => exact ⟨_, (false), (by first | rfl | (simp; done) | (simp [*]; done)), H', ⟨by have := HJ6.out; have := HJ15.out; have := HK3.out; first | omega | exact Nat.le_refl _⟩, ⟨by repeat (first | (with_reducible first | exact HB.out | apply below_alloc | apply pw_below_drewN | apply below_drew1) | exact HB.out)⟩⟩
                                case rest =>
                                  clear HC34
                                  try clear c1
                                  try clear c2
                                  try clear p2
                                  try clear q2
                                  try clear hx2
                                  try clear c3
                                  try clear p3
                                  try clear q3
                                  try clear hx3
                                  try clear c4
                                  try clear c6
                                  try clear p6
                                  try clear c9
                                  try clear c9b0
                                  try clear c9b1
                                  try clear c10
                                  try clear c11
                                  try clear c12
                                  try clear c12b0
                                  try clear c12b1
                                  try clear c13
                                  try clear c13b0
                                  try clear c13b1
                                  try clear c14
                                  try clear c21
                                  try clear c21b0
                                  try clear c21b1
                                  try clear p21
                                  try clear q21
                                  try clear hx21
                                  try clear c22
                                  try clear c22b0
                                  try clear c23
                                  try clear c24
                                  try clear c24b0
                                  try clear c24b1
                                  try clear c25
                                  try clear c25b0
                                  try clear c25b1
                                  try clear c28
                                  try clear c28b0
                                  try clear c29
                                  try clear c29b0
                                  try clear c30
                                  try clear c30b0
                                  try clear c31
                                  try clear p31
                                  try clear q31
                                  try clear hx31
                                  try clear hf31
                                  try clear c35
                                  try clear c37
                                  try clear c37b0
                                  try clear c43
                                  try clear c43b0
                                  try clear hx218_0
                                  try clear hx31_0
                                  try clear p2
                                  try clear p218
                                  try clear p31
                                  try clear p6
                                  try clear q218
                                  try clear q31
                                  obtain ⟨kq, x94_33, rfl, HA, HJ33, HB⟩ := hcut
                                  cases kq with
                                  | zero => exact absurd HA.out (by simp [psalterylaw31_MeterLate.j3])
                                  | succ kj33 =>
                                    have H := HA.out
                                    clear HA
                                    simp only [psalterylaw31_MeterLate.j3] at H
                                    by_cases c54 : x94_33 = true
                                    · subst c54
                                      have H1 : (some false) = some r := by rw [if_pos rfl] at H; exact H
                                      clear H
                                      have H := H1
                                      clear H1
                                      obtain rfl := Option.some.inj H
                                      go_wp2
                                      go_ret
                                      exact ⟨by first | rfl | (simp [errW_none, errW_some] <;> rfl) | (simp only [← hji11]; first | rfl | (simp [errW_none, errW_some] <;> rfl)) | (simp [*, errW_none, errW_some] <;> rfl), by repeat (first | (with_reducible first | exact HB.out | apply below_alloc | apply pw_below_drewN | apply below_drew1) | exact HB.out)⟩
                                    · replace c54 := Bool.eq_false_iff.mpr c54
                                      subst c54
                                      have H1 : ((meter_Still.f kj33 l0).bind fun bt224 => (psalterylaw31_MeterLate.l1 kj33 l0 bt224.1 bt224.2 bt224.1)) = some r := by rw [if_neg (show ¬ (false = true) by decide)] at H; exact H
                                      clear H
                                      have H := H1
                                      clear H1
                                      replace H := Option.bind_eq_some_iff.mp H
                                      obtain ⟨⟨t224, t225⟩, A550, H⟩ := H
                                      replace H : (psalterylaw31_MeterLate.l1 kj33 l0 t224 t225 t224) = some r := H
                                      have A55 := Aside0.mk A550
                                      clear A550
                                      have H' := Aside0.mk H
                                      clear H
                                      go_wp2_with (first | ((with_reducible refine gate_callee (f := 33) rfl ?_); refine goesL_ (some 97) rfl rfl Try.func33 (by kernel_rfl) rfl #[.slice A0 l0.length c0] rfl (by (try simp only [List.map_toArray, List.map_cons, List.map_nil]); first | done | rfl | (simp only [List.length_drop, List.length_take]; rfl)) ?_; (with_reducible refine (meter_Still.calls kj33 _ _ l0 t224 t225 _ ?side1 ?side2 A55.out).mono ?_); (case side1 => repeat (first | exact (Kd.C_below HR0.out HB.out) | (with_reducible refine Kd.C_alloc ?_ _) | (with_reducible refine Kd.C_drewN ?_ _) | (with_reducible refine Kd.C_drew ?_))); (case side2 => exact HC0.out); rintro e w' ⟨rfl, ⟨nd, rfl⟩⟩; refine ⟨_, rfl, ?_⟩))
                                      go_loopg [17] kj33 (fun kq v17 w' => ∃ (x17_5 : Int), v17 = .int .i64 x17_5 ∧ Aside0 (psalterylaw31_MeterLate.l1 kq l0 t224 t225 x17_5 = some r) ∧ Aside0 (kq ≤ kj33) ∧ Aside0 (Below w.heap.size w w'))
                                      case atStart => exact ⟨(t224), (by first | rfl | (simp; done) | (simp [*]; done)), H', ⟨Nat.le_refl _⟩, ⟨by repeat (first | (with_reducible first | exact HB.out | apply below_alloc | apply pw_below_drewN | apply below_drew1) | exact HB.out)⟩⟩
                                      case round =>
                                        clear H'
                                        try clear c1
                                        try clear c2
                                        try clear p2
                                        try clear q2
                                        try clear hx2
                                        try clear c3
                                        try clear p3
                                        try clear q3
                                        try clear hx3
                                        try clear c4
                                        try clear c5
                                        try clear c6
                                        try clear p6
                                        try clear c9
                                        try clear c9b0
                                        try clear c9b1
                                        try clear c10
                                        try clear c11
                                        try clear c12
                                        try clear c12b0
                                        try clear c12b1
                                        try clear c13
                                        try clear c13b0
                                        try clear c13b1
                                        try clear c14
                                        try clear c21
                                        try clear c21b0
                                        try clear c21b1
                                        try clear p21
                                        try clear q21
                                        try clear hx21
                                        try clear c22
                                        try clear c22b0
                                        try clear c23
                                        try clear c24
                                        try clear c24b0
                                        try clear c24b1
                                        try clear c25
                                        try clear c25b0
                                        try clear c25b1
                                        try clear c28
                                        try clear c28b0
                                        try clear c29
                                        try clear c29b0
                                        try clear c30
                                        try clear c30b0
                                        try clear c31
                                        try clear p31
                                        try clear q31
                                        try clear hx31
                                        try clear hf31
                                        try clear c33
                                        try clear c35
                                        try clear c37
                                        try clear c37b0
                                        try clear c43
                                        try clear c43b0
                                        try clear c54
                                        try clear hx218_0
                                        try clear hx31_0
                                        try clear p2
                                        try clear p21
                                        try clear p218
                                        try clear p3
                                        try clear p31
                                        try clear p6
                                        try clear q2
                                        try clear q21
                                        try clear q218
                                        try clear q3
                                        try clear q31
                                        obtain ⟨x17_5, rfl, HA, HK5, HB⟩ := hrel
                                        cases gk with
                                        | zero => exact absurd HA.out (by simp [psalterylaw31_MeterLate.l1])
                                        | succ k5 =>
                                          have H := HA.out
                                          clear HA
                                          simp only [psalterylaw31_MeterLate.l1] at H
                                          by_cases c56 : x17_5 < (wrap64 (t224 + t225))
                                          · rw [if_pos c56] at H
                                            have c56b0 : decide (x17_5 < (wrap64 (t224 + t225))) = true := decide_eq_true c56
                                            clear c56
                                            by_cases c57 : x17_5 ≥ (l0.length : Int)
                                            · rw [if_pos c57] at H
                                              have c57b0 : decide ((l0.length : Int) ≤ x17_5) = true := decide_eq_true c57
                                              clear c57
                                              obtain rfl := Option.some.inj H
                                              go_wp2
                                              go_ret
                                              exact ⟨by first | rfl | (simp [errW_none, errW_some] <;> rfl) | (simp only [← hji11]; first | rfl | (simp [errW_none, errW_some] <;> rfl)) | (simp [*, errW_none, errW_some] <;> rfl), by repeat (first | (with_reducible first | exact HB.out | apply below_alloc | apply pw_below_drewN | apply below_drew1) | exact HB.out)⟩
                                            · rw [if_neg c57] at H
                                              have c57b0 : decide ((l0.length : Int) ≤ x17_5) = false := decide_eq_false c57
                                              clear c57
                                              by_cases c58 : 0 ≤ x17_5
                                              · rw [if_pos c58] at H
                                                have c58b0 : decide (0 ≤ x17_5) = true := decide_eq_true c58
                                                clear c58
                                                by_cases c59 : x17_5 < (l0.length : Int)
                                                · rw [if_pos c59] at H
                                                  have c59b0 : decide (x17_5 < (l0.length : Int)) = true := decide_eq_true c59
                                                  clear c59
                                                  by_cases c60 : (rd l0 x17_5) = 0
                                                  · rw [if_pos c60] at H
                                                    have c60b0 : ((rd l0 x17_5) == 0) = true := beq_iff_eq.mpr c60
                                                    have c60b1 : ((rd l0 x17_5) != 0) = false := bne_eq_false_iff_eq.mpr c60
                                                    clear c60
                                                    have H' := Aside0.mk H
                                                    clear H
                                                    have p226 : 0 ≤ (x17_5 : Int) := of_decide_eq_true (by first | (with_reducible assumption) | assumption)
                                                    have q226 : x17_5 < (l0.length : Int) := of_decide_eq_true (by first | (with_reducible assumption) | assumption)
                                                    obtain ⟨ad226, e226, hx226_0⟩ := Kd.at_int HR0.out x17_5 p226 q226
                                                    cases e226
                                                    replace hx226_0 := (HB.out.cell (World.block_lt_of_cell? w _ hx226_0)).trans hx226_0
                                                    replace p226 := eq_true p226
                                                    replace q226 := eq_true q226
                                                    go_wp2
                                                    go_roundg k5
                                                    case measure => have := HJ6.out; have := HJ15.out; have := HK3.out; have := HJ33.out; have := HK5.out; omega
                                                    case rel => exact ⟨(wrap64 (x17_5 + 1)), (by first | rfl | (simp; done) | (simp [*]; done)), H', ⟨by have := HJ6.out; have := HJ15.out; have := HK3.out; have := HJ33.out; have := HK5.out; omega⟩, ⟨by repeat (first | (with_reducible first | exact HB.out | apply below_alloc | apply pw_below_drewN | apply below_drew1) | exact HB.out)⟩⟩
                                                  · rw [if_neg c60] at H
                                                    have c60b0 : ((rd l0 x17_5) == 0) = false := beq_eq_false_iff_ne.mpr c60
                                                    have c60b1 : ((rd l0 x17_5) != 0) = true := bne_iff_ne.mpr c60
                                                    obtain rfl := Option.some.inj H
                                                    have p226 : 0 ≤ (x17_5 : Int) := of_decide_eq_true (by first | (with_reducible assumption) | assumption)
                                                    have q226 : x17_5 < (l0.length : Int) := of_decide_eq_true (by first | (with_reducible assumption) | assumption)
                                                    obtain ⟨ad226, e226, hx226_0⟩ := Kd.at_int HR0.out x17_5 p226 q226
                                                    cases e226
                                                    replace hx226_0 := (HB.out.cell (World.block_lt_of_cell? w _ hx226_0)).trans hx226_0
                                                    replace p226 := eq_true p226
                                                    replace q226 := eq_true q226
                                                    go_wp2
                                                    go_ret
                                                    exact ⟨by first | rfl | (simp [errW_none, errW_some] <;> rfl) | (simp only [← hji11]; first | rfl | (simp [errW_none, errW_some] <;> rfl)) | (simp [*, errW_none, errW_some] <;> rfl), by repeat (first | (with_reducible first | exact HB.out | apply below_alloc | apply pw_below_drewN | apply below_drew1) | exact HB.out)⟩
                                                · rw [if_neg c59] at H
                                                  exact absurd H (by simp)
                                              · rw [if_neg c58] at H
                                                exact absurd H (by simp)
                                          · rw [if_neg c56] at H
                                            have c56b0 : decide (x17_5 < (wrap64 (t224 + t225))) = false := decide_eq_false c56
                                            clear c56
                                            by_cases c61 : t224 ≥ 0
                                            · rw [if_pos c61] at H
                                              have c61b0 : decide (0 ≤ t224) = true := decide_eq_true c61
                                              clear c61
                                              obtain rfl := Option.some.inj H
                                              go_wp2
                                              go_ret
                                              exact ⟨by first | rfl | (simp [errW_none, errW_some] <;> rfl) | (simp only [← hji11]; first | rfl | (simp [errW_none, errW_some] <;> rfl)) | (simp [*, errW_none, errW_some] <;> rfl), by repeat (first | (with_reducible first | exact HB.out | apply below_alloc | apply pw_below_drewN | apply below_drew1) | exact HB.out)⟩
                                            · rw [if_neg c61] at H
                                              have c61b0 : decide (0 ≤ t224) = false := decide_eq_false c61
                                              clear c61
                                              obtain rfl := Option.some.inj H
                                              go_wp2
                                              go_ret
                                              exact ⟨by first | rfl | (simp [errW_none, errW_some] <;> rfl) | (simp only [← hji11]; first | rfl | (simp [errW_none, errW_some] <;> rfl)) | (simp [*, errW_none, errW_some] <;> rfl), by repeat (first | (with_reducible first | exact HB.out | apply below_alloc | apply pw_below_drewN | apply below_drew1) | exact HB.out)⟩
                        · rw [if_neg c25] at H
                          exact absurd H (by simp)
                      · rw [if_neg c24] at H
                        exact absurd H (by simp)
              · rw [if_neg c14] at H
                exact absurd H (by simp)
            · rw [if_neg c13] at H
              exact absurd H (by simp)
          · rw [if_neg c12] at H
            exact absurd H (by simp)
  · replace c6 := Bool.eq_false_iff.mpr c6
    subst c6
    have H1 : (some false) = some r := by rw [if_neg (show ¬ (false = true) by decide)] at H; exact H
    clear H
    have H := H1
    clear H1
    obtain rfl := Option.some.inj H
    go_enter Try.func11, Try.ntmps11
    go_wp2_with (first | ((with_reducible refine gate_callee (f := 30) rfl ?_); refine goesL_ (some 18) rfl rfl Try.func30 (by kernel_rfl) rfl #[] rfl (by (try simp only [List.map_toArray, List.map_cons, List.map_nil]); first | done | rfl | (simp only [List.length_drop, List.length_take]; rfl)) ?_; (with_reducible refine (psalterylaw31_alive.calls k  false _ A5.out).mono ?_); rintro e w62 ⟨rfl, hb⟩; refine ⟨_, rfl, ?_⟩; have n0_ := Aside0.mk (below_step (by repeat (first | (with_reducible first | exact HB.out | apply below_alloc | apply pw_below_drewN | apply below_drew1) | exact HB.out)) hb); clear HB; have HB := n0_; clear n0_; (try clear hb); (try clear hb2); (try clear hk); (try clear hi)))
    go_ret
    exact ⟨by first | rfl | (simp [errW_none, errW_some] <;> rfl) | (simp [*, errW_none, errW_some] <;> rfl), by repeat (first | (with_reducible first | exact HB.out | apply below_alloc | apply pw_below_drewN | apply below_drew1) | exact HB.out)⟩

/-- THE ONE PURE STATEMENT of psalterylaw31_MeterLate: yours. -/
def psalterylaw31_MeterLate.Pure : Prop := ∀ (l0 : List Int) (a1 : Int) (a2 : Int) (l3 : List Int), l0.length ≤ maxLen → l0.length * 2 ≤ 140737488351232 → (∀ x ∈ l0, (Lit.int .i16 x).wf = true) → (Lit.int .u8 a1).wf = true → (Lit.int .u8 a2).wf = true → l3.length ≤ maxLen → l3.length * 2 ≤ 140737488351232 → (∀ x ∈ l3, (Lit.int .i16 x).wf = true) → ∃ k, psalterylaw31_MeterLate.f k l0 a1 a2 l3 = some true
theorem psalterylaw31_MeterLate.walk (P : psalterylaw31_MeterLate.Pure) (a0 : Option Addr) (len0 cap0 : Nat) (z0 : List Int) (a1 : Int) (a2 : Int) (a3 : Option Addr) (len3 cap3 : Nat) (z3 : List Int) (w : World) (w0 : (a0 = none ∧ len0 = 0 ∧ cap0 = 0 ∧ z0 = []) ∨ ∃ x, a0 = some x ∧ len0 ≤ cap0 ∧ cap0 ≤ maxLen ∧ z0.length = cap0 ∧ (∀ i, i < z0.length → w.cell? (x.add i) = some (.int .i16 (z0.getD i 0))) ∧ ∀ n ∈ z0, (Lit.int .i16 n).wf = true) (y0 : len0 * 2 ≤ 140737488351232) (w1 : (Lit.int .u8 a1).wf = true) (w2 : (Lit.int .u8 a2).wf = true) (w3 : (a3 = none ∧ len3 = 0 ∧ cap3 = 0 ∧ z3 = []) ∨ ∃ x, a3 = some x ∧ len3 ≤ cap3 ∧ cap3 ≤ maxLen ∧ z3.length = cap3 ∧ (∀ i, i < z3.length → w.cell? (x.add i) = some (.int .i16 (z3.getD i 0))) ∧ ∀ n ∈ z3, (Lit.int .i16 n).wf = true) (y3 : len3 * 2 ≤ 140737488351232) :
    Calls Try.prog 11 #[.slice a0 len0 cap0, .int .u8 a1, .int .u8 a2, .slice a3 len3 cap3] w fun e w' => e = .returned (.bool true) ∧ Below w.heap.size w w' := by
  obtain ⟨l0, rfl, hr0, hm0, hw0, hc0⟩ := ReadsInt.ofRowC w0
  obtain ⟨l3, rfl, hr3, hm3, hw3, hc3⟩ := ReadsInt.ofRowC w3
  obtain ⟨k, h⟩ := P l0 a1 a2 l3 hm0 y0 hw0 w1 w2 hm3 y3 hw3
  refine (psalterylaw31_MeterLate.calls k _ _ l0 a1 a2 _ _ l3 true w (Kd.C_of_reads (d := (0 : Int)) (h1 := fun _ => rfl) hr0) hc0 (Kd.C_of_reads (d := (0 : Int)) (h1 := fun _ => rfl) hr3) hc3 h).mono ?_
  rintro e w' ⟨rfl, hd⟩
  exact ⟨rfl, hd⟩

end Go.Proofs.Ytfipchhpnnjkeaa.PMeter
