/- Contracts of the functions that the law Pairs reaches: each Go function as a Lean function, and that the Go text comes to it. Written by programs (wip/tools), out of the program's own loaded form. -/
import Derived.Test.YtnaeondfkkiimaaPPairsx0
import Derived.Test.YtnaeondfkkiimaaPPairsx1
import Derived.Test.YtnaeondfkkiimaaPPairsx2
namespace Go.Proofs.Ytnaeondfkkiimaa.PPairs
open Go.RowKit Go.Proofs.YtnaeondfkkiimaaW.PrintWords Go.Proofs.YtnaeondfkkiimaaW.PrintLast Go.Proofs.YtnaeondfkkiimaaW.PrintMore
attribute [local go_sem] max2_int min2_int max_two min_two max_three min_three max_four min_four   -- for this text's walks alone
set_option linter.unusedVariables false
set_option linter.unusedSimpArgs false

/-! ### psalterylaw13_QuantOrder: function 12 -/
mutual
def psalterylaw13_QuantOrder.j0 : Nat → Int → Int → Int → Int → List (List Int) → List (List Int) → Option (Bool)
  | 0, _, _, _, _, _, _ => none
  | k + 1, x0, x1, x2, x3, x4, x5 => (quant_Quant.f x0 x2 x3).bind fun bt136 => ((quant_Quant.f x1 x2 x3).bind fun bt138 => (if bt136.2 = bt138.2 then (psalterylaw13_QuantOrder.j1 k x2 x3 x4 x5 bt136.1 bt138.1 (decide (bt136.1 > bt138.1))) else (psalterylaw13_QuantOrder.j1 k x2 x3 x4 x5 bt136.1 bt138.1 true)))
def psalterylaw13_QuantOrder.j1 : Nat → Int → Int → List (List Int) → List (List Int) → Int → Int → Bool → Option (Bool)
  | 0, _, _, _, _, _, _, _ => none
  | k + 1, x2, x3, x4, x5, x13, x15, x59 => if x59 = true then (some false) else ((quant_Level.f k x13 x2 x3).bind fun bt140 => ((quant_Level.f k x15 x2 x3).bind fun bt142 => (if bt140.1 > bt142.1 then (psalterylaw13_QuantOrder.j2 k x4 x5 bt140.1 bt142.1 true) else ((psalteryref13_Far.f k x4).bind fun t144 => (if t144 = true then (psalterylaw13_QuantOrder.j2 k x4 x5 bt140.1 bt142.1 true) else ((psalteryref13_Far.f k x5).bind fun t145 => (psalterylaw13_QuantOrder.j2 k x4 x5 bt140.1 bt142.1 t145)))))))
def psalterylaw13_QuantOrder.j2 : Nat → List (List Int) → List (List Int) → Int → Int → Bool → Option (Bool)
  | 0, _, _, _, _, _ => none
  | k + 1, x4, x5, x17, x19, x84 => if x84 = true then (some (decide (x17 ≤ x19))) else ((quant_Middle.f x4 x5).bind fun bt146 => (if bt146.2.2 = 0 then ((quant_Sides.f bt146.1 bt146.2.1).bind fun bt153 => (if bt153.2.2 = 0 then (psalterylaw13_QuantOrder.l0 k x4 x5 bt153.1 bt153.2.1 0) else (some false))) else (some ((bt146.1.length : Int) == 0))))
def psalterylaw13_QuantOrder.l0 : Nat → List (List Int) → List (List Int) → List (List Int) → List (List Int) → Int → Option (Bool)
  | 0, _, _, _, _, _ => none
  | k + 1, x4, x5, x24, x25, x27 => if x27 < (x4.length : Int) then (psalterylaw13_QuantOrder.l1 k x4 x5 x24 x25 x27 0) else (some true)
def psalterylaw13_QuantOrder.l1 : Nat → List (List Int) → List (List Int) → List (List Int) → List (List Int) → Int → Int → Option (Bool)
  | 0, _, _, _, _, _, _ => none
  | k + 1, x4, x5, x24, x25, x27, x28 => if 0 ≤ x27 then (if x27 < (x4.length : Int) then (if x28 < ((rd_L1 x4 x27).length : Int) then (if 0 ≤ x28 then (if x27 < (x24.length : Int) then (if x28 < ((rd_L1 x24 x27).length : Int) then (if x27 < (x5.length : Int) then (if x28 < ((rd_L1 x5 x27).length : Int) then (if x27 < (x25.length : Int) then (if x28 < ((rd_L1 x25 x27).length : Int) then (if (wrap64 ((wrap64 (rd (rd_L1 x4 x27) x28)) - (wrap64 (rd (rd_L1 x24 x27) x28)))) < 0 then (some false) else (if (wrap64 ((wrap64 (rd (rd_L1 x4 x27) x28)) - (wrap64 (rd (rd_L1 x24 x27) x28)))) > 1 then (some false) else (if (wrap64 ((wrap64 (rd (rd_L1 x5 x27) x28)) - (wrap64 (rd (rd_L1 x25 x27) x28)))) < 0 then (some false) else (if (wrap64 ((wrap64 (rd (rd_L1 x5 x27) x28)) - (wrap64 (rd (rd_L1 x25 x27) x28)))) > 1 then (some false) else (psalterylaw13_QuantOrder.l1 k x4 x5 x24 x25 x27 (wrap64 (x28 + 1))))))) else (none)) else (none)) else (none)) else (none)) else (none)) else (none)) else (none)) else (psalterylaw13_QuantOrder.l0 k x4 x5 x24 x25 (wrap64 (x27 + 1)))) else (none)) else (none)
end
def psalterylaw13_QuantOrder.f (k : Nat) (a0 : Int) (a1 : Int) (a2 : Int) (a3 : Int) (l4 : List (List Int)) (l5 : List (List Int)) : Option (Bool) := (psalterylaw13_alive.f k).bind fun t135 => (if t135 = true then (if a0 > a1 then (psalterylaw13_QuantOrder.j0 k a1 a0 a2 a3 l4 l5) else (psalterylaw13_QuantOrder.j0 k a0 a1 a2 a3 l4 l5)) else (some false))
theorem psalterylaw13_QuantOrder.mono_l : ∀ k, (∀ y0 y1 y2 y3 y4 y5, LeO (psalterylaw13_QuantOrder.j0 k y0 y1 y2 y3 y4 y5) (psalterylaw13_QuantOrder.j0 (k + 1) y0 y1 y2 y3 y4 y5)) ∧ (∀ y0 y1 y2 y3 y4 y5 y6, LeO (psalterylaw13_QuantOrder.j1 k y0 y1 y2 y3 y4 y5 y6) (psalterylaw13_QuantOrder.j1 (k + 1) y0 y1 y2 y3 y4 y5 y6)) ∧ (∀ y0 y1 y2 y3 y4, LeO (psalterylaw13_QuantOrder.j2 k y0 y1 y2 y3 y4) (psalterylaw13_QuantOrder.j2 (k + 1) y0 y1 y2 y3 y4)) ∧ (∀ y0 y1 y2 y3 y4, LeO (psalterylaw13_QuantOrder.l0 k y0 y1 y2 y3 y4) (psalterylaw13_QuantOrder.l0 (k + 1) y0 y1 y2 y3 y4)) ∧ (∀ y0 y1 y2 y3 y4 y5, LeO (psalterylaw13_QuantOrder.l1 k y0 y1 y2 y3 y4 y5) (psalterylaw13_QuantOrder.l1 (k + 1) y0 y1 y2 y3 y4 y5))
  | 0 => ⟨fun _ _ _ _ _ _ r h => by simp [psalterylaw13_QuantOrder.j0] at h, fun _ _ _ _ _ _ _ r h => by simp [psalterylaw13_QuantOrder.j1] at h, fun _ _ _ _ _ r h => by simp [psalterylaw13_QuantOrder.j2] at h, fun _ _ _ _ _ r h => by simp [psalterylaw13_QuantOrder.l0] at h, fun _ _ _ _ _ _ r h => by simp [psalterylaw13_QuantOrder.l1] at h⟩
  | k + 1 => by
    obtain ⟨ih0, ih1, ih2, ih3, ih4⟩ := psalterylaw13_QuantOrder.mono_l k
    refine ⟨?_, ?_, ?_, ?_, ?_⟩
    · intro y0 y1 y2 y3 y4 y5
      unfold psalterylaw13_QuantOrder.j0
      repeat' first
      | (with_reducible exact ih0 _ _ _ _ _ _)
      | (with_reducible exact ih1 _ _ _ _ _ _ _)
      | (with_reducible exact ih2 _ _ _ _ _)
      | (with_reducible exact ih3 _ _ _ _ _)
      | (with_reducible exact ih4 _ _ _ _ _ _)
      | (with_reducible exact psalterylaw13_alive.mono _)
      | (with_reducible exact psalteryref13_Far.mono _ _)
      | (with_reducible exact quant_Level.mono _ _ _ _)
      | (with_reducible exact LeO.refl _)
      | (with_reducible exact LeO.none _)
      | (with_reducible refine LeO.ite ?_ ?_)
      | (with_reducible refine LeO.bind ?_ (fun _ => ?_))
      | exact ih0 _ _ _ _ _ _
      | exact ih1 _ _ _ _ _ _ _
      | exact ih2 _ _ _ _ _
      | exact ih3 _ _ _ _ _
      | exact ih4 _ _ _ _ _ _
      | exact psalterylaw13_alive.mono _
      | exact psalteryref13_Far.mono _ _
      | exact quant_Level.mono _ _ _ _
      | exact LeO.none _
      | refine LeO.ite ?_ ?_
      | refine LeO.bind ?_ (fun _ => ?_)
    · intro y0 y1 y2 y3 y4 y5 y6
      unfold psalterylaw13_QuantOrder.j1
      repeat' first
      | (with_reducible exact ih0 _ _ _ _ _ _)
      | (with_reducible exact ih1 _ _ _ _ _ _ _)
      | (with_reducible exact ih2 _ _ _ _ _)
      | (with_reducible exact ih3 _ _ _ _ _)
      | (with_reducible exact ih4 _ _ _ _ _ _)
      | (with_reducible exact psalterylaw13_alive.mono _)
      | (with_reducible exact psalteryref13_Far.mono _ _)
      | (with_reducible exact quant_Level.mono _ _ _ _)
      | (with_reducible exact LeO.refl _)
      | (with_reducible exact LeO.none _)
      | (with_reducible refine LeO.ite ?_ ?_)
      | (with_reducible refine LeO.bind ?_ (fun _ => ?_))
      | exact ih0 _ _ _ _ _ _
      | exact ih1 _ _ _ _ _ _ _
      | exact ih2 _ _ _ _ _
      | exact ih3 _ _ _ _ _
      | exact ih4 _ _ _ _ _ _
      | exact psalterylaw13_alive.mono _
      | exact psalteryref13_Far.mono _ _
      | exact quant_Level.mono _ _ _ _
      | exact LeO.none _
      | refine LeO.ite ?_ ?_
      | refine LeO.bind ?_ (fun _ => ?_)
    · intro y0 y1 y2 y3 y4
      unfold psalterylaw13_QuantOrder.j2
      repeat' first
      | (with_reducible exact ih0 _ _ _ _ _ _)
      | (with_reducible exact ih1 _ _ _ _ _ _ _)
      | (with_reducible exact ih2 _ _ _ _ _)
      | (with_reducible exact ih3 _ _ _ _ _)
      | (with_reducible exact ih4 _ _ _ _ _ _)
      | (with_reducible exact psalterylaw13_alive.mono _)
      | (with_reducible exact psalteryref13_Far.mono _ _)
      | (with_reducible exact quant_Level.mono _ _ _ _)
      | (with_reducible exact LeO.refl _)
      | (with_reducible exact LeO.none _)
      | (with_reducible refine LeO.ite ?_ ?_)
      | (with_reducible refine LeO.bind ?_ (fun _ => ?_))
      | exact ih0 _ _ _ _ _ _
      | exact ih1 _ _ _ _ _ _ _
      | exact ih2 _ _ _ _ _
      | exact ih3 _ _ _ _ _
      | exact ih4 _ _ _ _ _ _
      | exact psalterylaw13_alive.mono _
      | exact psalteryref13_Far.mono _ _
      | exact quant_Level.mono _ _ _ _
      | exact LeO.none _
      | refine LeO.ite ?_ ?_
      | refine LeO.bind ?_ (fun _ => ?_)
    · intro y0 y1 y2 y3 y4
      unfold psalterylaw13_QuantOrder.l0
      repeat' first
      | (with_reducible exact ih0 _ _ _ _ _ _)
      | (with_reducible exact ih1 _ _ _ _ _ _ _)
      | (with_reducible exact ih2 _ _ _ _ _)
      | (with_reducible exact ih3 _ _ _ _ _)
      | (with_reducible exact ih4 _ _ _ _ _ _)
      | (with_reducible exact psalterylaw13_alive.mono _)
      | (with_reducible exact psalteryref13_Far.mono _ _)
      | (with_reducible exact quant_Level.mono _ _ _ _)
      | (with_reducible exact LeO.refl _)
      | (with_reducible exact LeO.none _)
      | (with_reducible refine LeO.ite ?_ ?_)
      | (with_reducible refine LeO.bind ?_ (fun _ => ?_))
      | exact ih0 _ _ _ _ _ _
      | exact ih1 _ _ _ _ _ _ _
      | exact ih2 _ _ _ _ _
      | exact ih3 _ _ _ _ _
      | exact ih4 _ _ _ _ _ _
      | exact psalterylaw13_alive.mono _
      | exact psalteryref13_Far.mono _ _
      | exact quant_Level.mono _ _ _ _
      | exact LeO.none _
      | refine LeO.ite ?_ ?_
      | refine LeO.bind ?_ (fun _ => ?_)
    · intro y0 y1 y2 y3 y4 y5
      unfold psalterylaw13_QuantOrder.l1
      repeat' first
      | (with_reducible exact ih0 _ _ _ _ _ _)
      | (with_reducible exact ih1 _ _ _ _ _ _ _)
      | (with_reducible exact ih2 _ _ _ _ _)
      | (with_reducible exact ih3 _ _ _ _ _)
      | (with_reducible exact ih4 _ _ _ _ _ _)
      | (with_reducible exact psalterylaw13_alive.mono _)
      | (with_reducible exact psalteryref13_Far.mono _ _)
      | (with_reducible exact quant_Level.mono _ _ _ _)
      | (with_reducible exact LeO.refl _)
      | (with_reducible exact LeO.none _)
      | (with_reducible refine LeO.ite ?_ ?_)
      | (with_reducible refine LeO.bind ?_ (fun _ => ?_))
      | exact ih0 _ _ _ _ _ _
      | exact ih1 _ _ _ _ _ _ _
      | exact ih2 _ _ _ _ _
      | exact ih3 _ _ _ _ _
      | exact ih4 _ _ _ _ _ _
      | exact psalterylaw13_alive.mono _
      | exact psalteryref13_Far.mono _ _
      | exact quant_Level.mono _ _ _ _
      | exact LeO.none _
      | refine LeO.ite ?_ ?_
      | refine LeO.bind ?_ (fun _ => ?_)
theorem psalterylaw13_QuantOrder.mono : ∀ a0 a1 a2 a3 a4 a5 k, LeO (psalterylaw13_QuantOrder.f k a0 a1 a2 a3 a4 a5) (psalterylaw13_QuantOrder.f (k + 1) a0 a1 a2 a3 a4 a5) := by
  intro a0 a1 a2 a3 a4 a5 k
  obtain ⟨ih0, ih1, ih2, ih3, ih4⟩ := psalterylaw13_QuantOrder.mono_l k
  unfold psalterylaw13_QuantOrder.f
  repeat' first
      | (with_reducible exact ih0 _ _ _ _ _ _)
      | (with_reducible exact ih1 _ _ _ _ _ _ _)
      | (with_reducible exact ih2 _ _ _ _ _)
      | (with_reducible exact ih3 _ _ _ _ _)
      | (with_reducible exact ih4 _ _ _ _ _ _)
      | (with_reducible exact psalterylaw13_alive.mono _)
      | (with_reducible exact psalteryref13_Far.mono _ _)
      | (with_reducible exact quant_Level.mono _ _ _ _)
      | (with_reducible exact LeO.refl _)
      | (with_reducible exact LeO.none _)
      | (with_reducible refine LeO.ite ?_ ?_)
      | (with_reducible refine LeO.bind ?_ (fun _ => ?_))
      | exact ih0 _ _ _ _ _ _
      | exact ih1 _ _ _ _ _ _ _
      | exact ih2 _ _ _ _ _
      | exact ih3 _ _ _ _ _
      | exact ih4 _ _ _ _ _ _
      | exact psalterylaw13_alive.mono _
      | exact psalteryref13_Far.mono _ _
      | exact quant_Level.mono _ _ _ _
      | exact LeO.none _
      | refine LeO.ite ?_ ?_
      | refine LeO.bind ?_ (fun _ => ?_)
set_option maxHeartbeats 8000000 in
set_option maxRecDepth 100000 in
theorem psalterylaw13_QuantOrder.calls (k : Nat) (a0 : Int) (a1 : Int) (a2 : Int) (a3 : Int) (A4 : Option Addr) (c4 : Nat) (l4 : List (List Int)) (A5 : Option Addr) (c5 : Nat) (l5 : List (List Int)) (r : Bool) (w : World) (hr4 : Kd.C (Kd.slice 21 (Kd.int .i32)) w A4 l4.length l4) (hc4 : l4.length ≤ c4) (hr5 : Kd.C (Kd.slice 21 (Kd.int .i32)) w A5 l5.length l5) (hc5 : l5.length ≤ c5) (h : psalterylaw13_QuantOrder.f k a0 a1 a2 a3 l4 l5 = some r) :
    Calls Try.prog 12 #[.int .i32 a0, .int .i32 a1, .int .i64 a2, .int .i64 a3, .slice A4 l4.length c4, .slice A5 l5.length c5] w fun e w' => e = .returned (.bool r) ∧ Below w.heap.size w w' := by
  have HR4 := Aside0.mk hr4
  have HC4 := Aside0.mk hc4
  clear hr4 hc4
  have HR5 := Aside0.mk hr5
  have HC5 := Aside0.mk hc5
  clear hr5 hc5
  have HB := Aside0.mk (Below.refl w.heap.size w)
  have H : ((psalterylaw13_alive.f k).bind fun t135 => (if t135 = true then (if a0 > a1 then (psalterylaw13_QuantOrder.j0 k a1 a0 a2 a3 l4 l5) else (psalterylaw13_QuantOrder.j0 k a0 a1 a2 a3 l4 l5)) else (some false))) = some r := h
  clear h
  replace H := Option.bind_eq_some_iff.mp H
  obtain ⟨t135, A70, H⟩ := H
  replace H : (if t135 = true then (if a0 > a1 then (psalterylaw13_QuantOrder.j0 k a1 a0 a2 a3 l4 l5) else (psalterylaw13_QuantOrder.j0 k a0 a1 a2 a3 l4 l5)) else (some false)) = some r := H
  have A7 := Aside0.mk A70
  clear A70
  by_cases c8 : t135 = true
  · subst c8
    have H1 : (if a0 > a1 then (psalterylaw13_QuantOrder.j0 k a1 a0 a2 a3 l4 l5) else (psalterylaw13_QuantOrder.j0 k a0 a1 a2 a3 l4 l5)) = some r := by rw [if_pos rfl] at H; exact H
    clear H
    have H := H1
    clear H1
    have HC9 := Aside0.mk H
    clear H
    go_enter Try.func12, Try.ntmps12
    go_upto_if 35 with (first | (go_at_call 32; (with_reducible refine (psalterylaw13_alive.calls k  true _ A7.out).mono ?_); rintro e w' ⟨rfl, ⟨nd, rfl⟩⟩; (try first | exact ⟨rfl, _, World.drewN_drewN _ _ _⟩ | exact ⟨rfl, _, Eq.trans (World.drewN_drewN _ _ _) (congrArg (World.drewN _) (Nat.add_assoc _ _ _))⟩)))
    repeat (go_quiet (first | (go_at_call 32; (with_reducible refine (psalterylaw13_alive.calls k  true _ A7.out).mono ?_); rintro e w' ⟨rfl, ⟨nd, rfl⟩⟩; (try first | exact ⟨rfl, _, World.drewN_drewN _ _ _⟩ | exact ⟨rfl, _, Eq.trans (World.drewN_drewN _ _ _) (congrArg (World.drewN _) (Nat.add_assoc _ _ _))⟩))); go_upto_if 35 with (first | (go_at_call 32; (with_reducible refine (psalterylaw13_alive.calls k  true _ A7.out).mono ?_); rintro e w' ⟨rfl, ⟨nd, rfl⟩⟩; (try first | exact ⟨rfl, _, World.drewN_drewN _ _ _⟩ | exact ⟨rfl, _, Eq.trans (World.drewN_drewN _ _ _) (congrArg (World.drewN _) (Nat.add_assoc _ _ _))⟩))))
    (try simp only [Act.put, List.setIfInBounds_toArray, List.set_cons_zero, List.set_cons_succ])
    go_cut [0, 1] (fun v0 v1 wc => ∃ (kq : Nat) (x0_8 : Int) (x1_8 : Int), v0 = .int .i32 x0_8 ∧ v1 = .int .i32 x1_8 ∧ Aside0 (psalterylaw13_QuantOrder.j0 kq x0_8 x1_8 a2 a3 l4 l5 = some r) ∧ Aside0 (kq ≤ k) ∧ Aside0 (Below w.heap.size w wc))
    case first =>
      have H := HC9.out
      clear HC9
      by_cases c10 : a0 > a1
      · rw [if_pos c10] at H
        have c10b0 : decide (a1 < a0) = true := decide_eq_true c10
        clear c10
        (first | rw [c10b0] | (simp only [i64_w, i32_w]; rw [c10b0]) | skip)
        have H' := Aside0.mk H
        clear H
        go_wp2
        repeat (go_quiet (fail); try go_wp2)
        go_meet
        case rel => exact ⟨_, (a1), (a0), (by first | rfl | (simp; done) | (simp [*]; done)), (by first | rfl | (simp; done) | (simp [*]; done)), H', ⟨by first | omega | exact Nat.le_refl _⟩, ⟨by repeat (first | (with_reducible first | exact HB.out | apply below_alloc | apply pw_below_drewN | apply below_drew1) | exact HB.out)⟩⟩
      · rw [if_neg c10] at H
        have c10b0 : decide (a1 < a0) = false := decide_eq_false c10
        clear c10
        (first | rw [c10b0] | (simp only [i64_w, i32_w]; rw [c10b0]) | skip)
        have H' := Aside0.mk H
        clear H
        go_wp2
        repeat (go_quiet (fail); try go_wp2)
        go_meet
        case rel => exact ⟨_, (a0), (a1), (by first | rfl | (simp; done) | (simp [*]; done)), (by first | rfl | (simp; done) | (simp [*]; done)), H', ⟨by first | omega | exact Nat.le_refl _⟩, ⟨by repeat (first | (with_reducible first | exact HB.out | apply below_alloc | apply pw_below_drewN | apply below_drew1) | exact HB.out)⟩⟩
    case rest =>
      clear HC9
      try clear c1
      try clear p2
      try clear c4
      try clear c5
      try clear c8
      try clear c10
      try clear c10b0
      obtain ⟨kq, x0_8, x1_8, rfl, rfl, HA, HJ8, HB⟩ := hcut
      cases kq with
      | zero => exact absurd HA.out (by simp [psalterylaw13_QuantOrder.j0])
      | succ kj8 =>
        have H := HA.out
        clear HA
        simp only [psalterylaw13_QuantOrder.j0] at H
        replace H := Option.bind_eq_some_iff.mp H
        obtain ⟨⟨t136, t137⟩, A110, H⟩ := H
        replace H : ((quant_Quant.f x1_8 a2 a3).bind fun bt138 => (if t137 = bt138.2 then (psalterylaw13_QuantOrder.j1 kj8 a2 a3 l4 l5 t136 bt138.1 (decide (t136 > bt138.1))) else (psalterylaw13_QuantOrder.j1 kj8 a2 a3 l4 l5 t136 bt138.1 true))) = some r := H
        have A11 := Aside0.mk A110
        clear A110
        replace H := Option.bind_eq_some_iff.mp H
        obtain ⟨⟨t138, t139⟩, A120, H⟩ := H
        replace H : (if t137 = t139 then (psalterylaw13_QuantOrder.j1 kj8 a2 a3 l4 l5 t136 t138 (decide (t136 > t138))) else (psalterylaw13_QuantOrder.j1 kj8 a2 a3 l4 l5 t136 t138 true)) = some r := H
        have A12 := Aside0.mk A120
        clear A120
        have HC13 := Aside0.mk H
        clear H
        go_upto_region 7 with (first | (go_at_call 33; (with_reducible refine (quant_Quant.calls x0_8 a2 a3 t136 t137 _ A11.out).mono ?_); rintro e w' ⟨rfl, ⟨nd, rfl⟩⟩; (try first | exact ⟨rfl, _, World.drewN_drewN _ _ _⟩ | exact ⟨rfl, _, Eq.trans (World.drewN_drewN _ _ _) (congrArg (World.drewN _) (Nat.add_assoc _ _ _))⟩)) | (go_at_call 33; (with_reducible refine (quant_Quant.calls x1_8 a2 a3 t138 t139 _ A12.out).mono ?_); rintro e w' ⟨rfl, ⟨nd, rfl⟩⟩; (try first | exact ⟨rfl, _, World.drewN_drewN _ _ _⟩ | exact ⟨rfl, _, Eq.trans (World.drewN_drewN _ _ _) (congrArg (World.drewN _) (Nat.add_assoc _ _ _))⟩)))
        repeat (go_quiet (first | (go_at_call 33; (with_reducible refine (quant_Quant.calls x0_8 a2 a3 t136 t137 _ A11.out).mono ?_); rintro e w' ⟨rfl, ⟨nd, rfl⟩⟩; (try first | exact ⟨rfl, _, World.drewN_drewN _ _ _⟩ | exact ⟨rfl, _, Eq.trans (World.drewN_drewN _ _ _) (congrArg (World.drewN _) (Nat.add_assoc _ _ _))⟩)) | (go_at_call 33; (with_reducible refine (quant_Quant.calls x1_8 a2 a3 t138 t139 _ A12.out).mono ?_); rintro e w' ⟨rfl, ⟨nd, rfl⟩⟩; (try first | exact ⟨rfl, _, World.drewN_drewN _ _ _⟩ | exact ⟨rfl, _, Eq.trans (World.drewN_drewN _ _ _) (congrArg (World.drewN _) (Nat.add_assoc _ _ _))⟩))); go_upto_region 7 with (first | (go_at_call 33; (with_reducible refine (quant_Quant.calls x0_8 a2 a3 t136 t137 _ A11.out).mono ?_); rintro e w' ⟨rfl, ⟨nd, rfl⟩⟩; (try first | exact ⟨rfl, _, World.drewN_drewN _ _ _⟩ | exact ⟨rfl, _, Eq.trans (World.drewN_drewN _ _ _) (congrArg (World.drewN _) (Nat.add_assoc _ _ _))⟩)) | (go_at_call 33; (with_reducible refine (quant_Quant.calls x1_8 a2 a3 t138 t139 _ A12.out).mono ?_); rintro e w' ⟨rfl, ⟨nd, rfl⟩⟩; (try first | exact ⟨rfl, _, World.drewN_drewN _ _ _⟩ | exact ⟨rfl, _, Eq.trans (World.drewN_drewN _ _ _) (congrArg (World.drewN _) (Nat.add_assoc _ _ _))⟩))))
        (try simp only [Act.put, List.setIfInBounds_toArray, List.set_cons_zero, List.set_cons_succ])
        go_cut [59] (fun v59 wc => ∃ (kq : Nat) (x59_12 : Bool), v59 = .bool x59_12 ∧ Aside0 (psalterylaw13_QuantOrder.j1 kq a2 a3 l4 l5 t136 t138 x59_12 = some r) ∧ Aside0 (kq ≤ kj8) ∧ Aside0 (Below w.heap.size w wc))
        case first =>
          have H := HC13.out
          clear HC13
          by_cases c14 : t137 = t139
          · rw [if_pos c14] at H
            have c14b0 : (t137 == t139) = true := beq_iff_eq.mpr c14
            have c14b1 : (t137 != t139) = false := bne_eq_false_iff_eq.mpr c14
            clear c14
            (first | rw [c14b0] | (simp only [i64_w, i32_w]; rw [c14b0]) | skip)
            have H' := Aside0.mk H
            clear H
            go_wp2
            repeat (go_quiet (fail); try go_wp2)
            go_meet
            case rel => exact ⟨_, (decide (t136 > t138)), (by first | rfl | (simp; done) | (simp [*]; done)), H', ⟨by have := HJ8.out; first | omega | exact Nat.le_refl _⟩, ⟨by repeat (first | (with_reducible first | exact HB.out | apply below_alloc | apply pw_below_drewN | apply below_drew1) | exact HB.out)⟩⟩
          · rw [if_neg c14] at H
            have c14b0 : (t137 == t139) = false := beq_eq_false_iff_ne.mpr c14
            have c14b1 : (t137 != t139) = true := bne_iff_ne.mpr c14
            (first | rw [c14b0] | (simp only [i64_w, i32_w]; rw [c14b0]) | skip)
            have H' := Aside0.mk H
            clear H
            go_wp2
            repeat (go_quiet (fail); try go_wp2)
            go_meet
            case rel => exact ⟨_, (true), (by first | rfl | (simp; done) | (simp [*]; done)), H', ⟨by have := HJ8.out; first | omega | exact Nat.le_refl _⟩, ⟨by repeat (first | (with_reducible first | exact HB.out | apply below_alloc | apply pw_below_drewN | apply below_drew1) | exact HB.out)⟩⟩
        case rest =>
          clear HC13
          try clear c1
          try clear p2
          try clear c4
          try clear c5
          try clear c8
          try clear c10
          try clear c10b0
          try clear c12
          try clear c14
          try clear c14b0
          try clear c14b1
          try clear p2
          obtain ⟨kq, x59_12, rfl, HA, HJ12, HB⟩ := hcut
          cases kq with
          | zero => exact absurd HA.out (by simp [psalterylaw13_QuantOrder.j1])
          | succ kj12 =>
            have H := HA.out
            clear HA
            simp only [psalterylaw13_QuantOrder.j1] at H
            by_cases c15 : x59_12 = true
            · subst c15
              have H1 : (some false) = some r := by rw [if_pos rfl] at H; exact H
              clear H
              have H := H1
              clear H1
              obtain rfl := Option.some.inj H
              go_wp2
              repeat (go_quiet (fail); try go_wp2)
              go_ret
              exact ⟨by first | rfl | (simp [errW_none, errW_some] <;> rfl) | (simp [*, errW_none, errW_some] <;> rfl), by repeat (first | (with_reducible first | exact HB.out | apply below_alloc | apply pw_below_drewN | apply below_drew1) | exact HB.out)⟩
            · replace c15 := Bool.eq_false_iff.mpr c15
              subst c15
              have H1 : ((quant_Level.f kj12 t136 a2 a3).bind fun bt140 => ((quant_Level.f kj12 t138 a2 a3).bind fun bt142 => (if bt140.1 > bt142.1 then (psalterylaw13_QuantOrder.j2 kj12 l4 l5 bt140.1 bt142.1 true) else ((psalteryref13_Far.f kj12 l4).bind fun t144 => (if t144 = true then (psalterylaw13_QuantOrder.j2 kj12 l4 l5 bt140.1 bt142.1 true) else ((psalteryref13_Far.f kj12 l5).bind fun t145 => (psalterylaw13_QuantOrder.j2 kj12 l4 l5 bt140.1 bt142.1 t145))))))) = some r := by rw [if_neg (show ¬ (false = true) by decide)] at H; exact H
              clear H
              have H := H1
              clear H1
              replace H := Option.bind_eq_some_iff.mp H
              obtain ⟨⟨t140, t141⟩, A160, H⟩ := H
              replace H : ((quant_Level.f kj12 t138 a2 a3).bind fun bt142 => (if t140 > bt142.1 then (psalterylaw13_QuantOrder.j2 kj12 l4 l5 t140 bt142.1 true) else ((psalteryref13_Far.f kj12 l4).bind fun t144 => (if t144 = true then (psalterylaw13_QuantOrder.j2 kj12 l4 l5 t140 bt142.1 true) else ((psalteryref13_Far.f kj12 l5).bind fun t145 => (psalterylaw13_QuantOrder.j2 kj12 l4 l5 t140 bt142.1 t145)))))) = some r := H
              have A16 := Aside0.mk A160
              clear A160
              replace H := Option.bind_eq_some_iff.mp H
              obtain ⟨⟨t142, t143⟩, A170, H⟩ := H
              replace H : (if t140 > t142 then (psalterylaw13_QuantOrder.j2 kj12 l4 l5 t140 t142 true) else ((psalteryref13_Far.f kj12 l4).bind fun t144 => (if t144 = true then (psalterylaw13_QuantOrder.j2 kj12 l4 l5 t140 t142 true) else ((psalteryref13_Far.f kj12 l5).bind fun t145 => (psalterylaw13_QuantOrder.j2 kj12 l4 l5 t140 t142 t145))))) = some r := H
              have A17 := Aside0.mk A170
              clear A170
              have HC18 := Aside0.mk H
              clear H
              go_upto_region 11 with (first | (go_at_call 35; (with_reducible refine (quant_Level.calls kj12 t136 a2 a3 t140 t141 _ A16.out).mono ?_); rintro e w' ⟨rfl, ⟨nd, rfl⟩⟩; (try first | exact ⟨rfl, _, World.drewN_drewN _ _ _⟩ | exact ⟨rfl, _, Eq.trans (World.drewN_drewN _ _ _) (congrArg (World.drewN _) (Nat.add_assoc _ _ _))⟩)) | (go_at_call 35; (with_reducible refine (quant_Level.calls kj12 t138 a2 a3 t142 t143 _ A17.out).mono ?_); rintro e w' ⟨rfl, ⟨nd, rfl⟩⟩; (try first | exact ⟨rfl, _, World.drewN_drewN _ _ _⟩ | exact ⟨rfl, _, Eq.trans (World.drewN_drewN _ _ _) (congrArg (World.drewN _) (Nat.add_assoc _ _ _))⟩)))
              repeat (go_quiet (first | (go_at_call 35; (with_reducible refine (quant_Level.calls kj12 t136 a2 a3 t140 t141 _ A16.out).mono ?_); rintro e w' ⟨rfl, ⟨nd, rfl⟩⟩; (try first | exact ⟨rfl, _, World.drewN_drewN _ _ _⟩ | exact ⟨rfl, _, Eq.trans (World.drewN_drewN _ _ _) (congrArg (World.drewN _) (Nat.add_assoc _ _ _))⟩)) | (go_at_call 35; (with_reducible refine (quant_Level.calls kj12 t138 a2 a3 t142 t143 _ A17.out).mono ?_); rintro e w' ⟨rfl, ⟨nd, rfl⟩⟩; (try first | exact ⟨rfl, _, World.drewN_drewN _ _ _⟩ | exact ⟨rfl, _, Eq.trans (World.drewN_drewN _ _ _) (congrArg (World.drewN _) (Nat.add_assoc _ _ _))⟩))); go_upto_region 11 with (first | (go_at_call 35; (with_reducible refine (quant_Level.calls kj12 t136 a2 a3 t140 t141 _ A16.out).mono ?_); rintro e w' ⟨rfl, ⟨nd, rfl⟩⟩; (try first | exact ⟨rfl, _, World.drewN_drewN _ _ _⟩ | exact ⟨rfl, _, Eq.trans (World.drewN_drewN _ _ _) (congrArg (World.drewN _) (Nat.add_assoc _ _ _))⟩)) | (go_at_call 35; (with_reducible refine (quant_Level.calls kj12 t138 a2 a3 t142 t143 _ A17.out).mono ?_); rintro e w' ⟨rfl, ⟨nd, rfl⟩⟩; (try first | exact ⟨rfl, _, World.drewN_drewN _ _ _⟩ | exact ⟨rfl, _, Eq.trans (World.drewN_drewN _ _ _) (congrArg (World.drewN _) (Nat.add_assoc _ _ _))⟩))))
              (try simp only [Act.put, List.setIfInBounds_toArray, List.set_cons_zero, List.set_cons_succ])
              go_cut [84] (fun v84 wc => ∃ (kq : Nat) (x84_17 : Bool), v84 = .bool x84_17 ∧ Aside0 (psalterylaw13_QuantOrder.j2 kq l4 l5 t140 t142 x84_17 = some r) ∧ Aside0 (kq ≤ kj12) ∧ Aside0 (Below w.heap.size w wc))
              case first =>
                have H := HC18.out
                clear HC18
                by_cases c19 : t140 > t142
                · rw [if_pos c19] at H
                  have c19b0 : decide (t142 < t140) = true := decide_eq_true c19
                  clear c19
                  (first | rw [c19b0] | (simp only [i64_w, i32_w]; rw [c19b0]) | skip)
                  have H' := Aside0.mk H
                  clear H
                  go_wp2
                  repeat (go_quiet (fail); try go_wp2)
                  go_meet
                  case rel => exact ⟨_, (true), (by first | rfl | (simp; done) | (simp [*]; done)), H', ⟨by have := HJ8.out; have := HJ12.out; first | omega | exact Nat.le_refl _⟩, ⟨by repeat (first | (with_reducible first | exact HB.out | apply below_alloc | apply pw_below_drewN | apply below_drew1) | exact HB.out)⟩⟩
                · rw [if_neg c19] at H
                  have c19b0 : decide (t142 < t140) = false := decide_eq_false c19
                  clear c19
                  (first | rw [c19b0] | (simp only [i64_w, i32_w]; rw [c19b0]) | skip)
                  replace H := Option.bind_eq_some_iff.mp H
                  obtain ⟨t144, A200, H⟩ := H
                  replace H : (if t144 = true then (psalterylaw13_QuantOrder.j2 kj12 l4 l5 t140 t142 true) else ((psalteryref13_Far.f kj12 l5).bind fun t145 => (psalterylaw13_QuantOrder.j2 kj12 l4 l5 t140 t142 t145))) = some r := H
                  have A20 := Aside0.mk A200
                  clear A200
                  by_cases c21 : t144 = true
                  · subst c21
                    have H1 : (psalterylaw13_QuantOrder.j2 kj12 l4 l5 t140 t142 true) = some r := by rw [if_pos rfl] at H; exact H
                    clear H
                    have H := H1
                    clear H1
                    have H' := Aside0.mk H
                    clear H
                    go_wp2_with (first | (go_at_call 42; (with_reducible refine (psalteryref13_Far.calls kj12 _ _ l4 true _ ?side1 ?side2 A20.out).mono ?_); (case side1 => repeat (first | exact (Kd.C_below HR4.out HB.out) | (with_reducible refine Kd.C_alloc ?_ _) | (with_reducible refine Kd.C_drewN ?_ _) | (with_reducible refine Kd.C_drew ?_))); (case side2 => exact HC4.out); rintro e w' ⟨rfl, ⟨nd, rfl⟩⟩; (try first | exact ⟨rfl, _, World.drewN_drewN _ _ _⟩ | exact ⟨rfl, _, Eq.trans (World.drewN_drewN _ _ _) (congrArg (World.drewN _) (Nat.add_assoc _ _ _))⟩)))
                    repeat (go_quiet (first | (go_at_call 42; (with_reducible refine (psalteryref13_Far.calls kj12 _ _ l4 true _ ?side1 ?side2 A20.out).mono ?_); (case side1 => repeat (first | exact (Kd.C_below HR4.out HB.out) | (with_reducible refine Kd.C_alloc ?_ _) | (with_reducible refine Kd.C_drewN ?_ _) | (with_reducible refine Kd.C_drew ?_))); (case side2 => exact HC4.out); rintro e w' ⟨rfl, ⟨nd, rfl⟩⟩; (try first | exact ⟨rfl, _, World.drewN_drewN _ _ _⟩ | exact ⟨rfl, _, Eq.trans (World.drewN_drewN _ _ _) (congrArg (World.drewN _) (Nat.add_assoc _ _ _))⟩))); try go_wp2_with (first | (go_at_call 42; (with_reducible refine (psalteryref13_Far.calls kj12 _ _ l4 true _ ?side1 ?side2 A20.out).mono ?_); (case side1 => repeat (first | exact (Kd.C_below HR4.out HB.out) | (with_reducible refine Kd.C_alloc ?_ _) | (with_reducible refine Kd.C_drewN ?_ _) | (with_reducible refine Kd.C_drew ?_))); (case side2 => exact HC4.out); rintro e w' ⟨rfl, ⟨nd, rfl⟩⟩; (try first | exact ⟨rfl, _, World.drewN_drewN _ _ _⟩ | exact ⟨rfl, _, Eq.trans (World.drewN_drewN _ _ _) (congrArg (World.drewN _) (Nat.add_assoc _ _ _))⟩))))
                    go_meet
                    case rel => exact ⟨_, (true), (by first | rfl | (simp; done) | (simp [*]; done)), H', ⟨by have := HJ8.out; have := HJ12.out; first | omega | exact Nat.le_refl _⟩, ⟨by repeat (first | (with_reducible first | exact HB.out | apply below_alloc | apply pw_below_drewN | apply below_drew1) | exact HB.out)⟩⟩
                  · replace c21 := Bool.eq_false_iff.mpr c21
                    subst c21
                    have H1 : ((psalteryref13_Far.f kj12 l5).bind fun t145 => (psalterylaw13_QuantOrder.j2 kj12 l4 l5 t140 t142 t145)) = some r := by rw [if_neg (show ¬ (false = true) by decide)] at H; exact H
                    clear H
                    have H := H1
                    clear H1
                    replace H := Option.bind_eq_some_iff.mp H
                    obtain ⟨t145, A220, H⟩ := H
                    replace H : (psalterylaw13_QuantOrder.j2 kj12 l4 l5 t140 t142 t145) = some r := H
                    have A22 := Aside0.mk A220
                    clear A220
                    have H' := Aside0.mk H
                    clear H
                    go_wp2_with (first | (go_at_call 42; (with_reducible refine (psalteryref13_Far.calls kj12 _ _ l4 false _ ?side1 ?side2 A20.out).mono ?_); (case side1 => repeat (first | exact (Kd.C_below HR4.out HB.out) | (with_reducible refine Kd.C_alloc ?_ _) | (with_reducible refine Kd.C_drewN ?_ _) | (with_reducible refine Kd.C_drew ?_))); (case side2 => exact HC4.out); rintro e w' ⟨rfl, ⟨nd, rfl⟩⟩; (try first | exact ⟨rfl, _, World.drewN_drewN _ _ _⟩ | exact ⟨rfl, _, Eq.trans (World.drewN_drewN _ _ _) (congrArg (World.drewN _) (Nat.add_assoc _ _ _))⟩)) | (go_at_call 42; (with_reducible refine (psalteryref13_Far.calls kj12 _ _ l5 t145 _ ?side1 ?side2 A22.out).mono ?_); (case side1 => repeat (first | exact (Kd.C_below HR5.out (by repeat (first | (with_reducible first | exact HB.out | apply below_alloc | apply pw_below_drewN | apply below_drew1) | exact HB.out))) | (with_reducible refine Kd.C_alloc ?_ _) | (with_reducible refine Kd.C_drewN ?_ _) | (with_reducible refine Kd.C_drew ?_))); (case side2 => exact HC5.out); rintro e w' ⟨rfl, ⟨nd, rfl⟩⟩; (try first | exact ⟨rfl, _, World.drewN_drewN _ _ _⟩ | exact ⟨rfl, _, Eq.trans (World.drewN_drewN _ _ _) (congrArg (World.drewN _) (Nat.add_assoc _ _ _))⟩)))
                    repeat (go_quiet (first | (go_at_call 42; (with_reducible refine (psalteryref13_Far.calls kj12 _ _ l4 false _ ?side1 ?side2 A20.out).mono ?_); (case side1 => repeat (first | exact (Kd.C_below HR4.out HB.out) | (with_reducible refine Kd.C_alloc ?_ _) | (with_reducible refine Kd.C_drewN ?_ _) | (with_reducible refine Kd.C_drew ?_))); (case side2 => exact HC4.out); rintro e w' ⟨rfl, ⟨nd, rfl⟩⟩; (try first | exact ⟨rfl, _, World.drewN_drewN _ _ _⟩ | exact ⟨rfl, _, Eq.trans (World.drewN_drewN _ _ _) (congrArg (World.drewN _) (Nat.add_assoc _ _ _))⟩)) | (go_at_call 42; (with_reducible refine (psalteryref13_Far.calls kj12 _ _ l5 t145 _ ?side1 ?side2 A22.out).mono ?_); (case side1 => repeat (first | exact (Kd.C_below HR5.out (by repeat (first | (with_reducible first | exact HB.out | apply below_alloc | apply pw_below_drewN | apply below_drew1) | exact HB.out))) | (with_reducible refine Kd.C_alloc ?_ _) | (with_reducible refine Kd.C_drewN ?_ _) | (with_reducible refine Kd.C_drew ?_))); (case side2 => exact HC5.out); rintro e w' ⟨rfl, ⟨nd, rfl⟩⟩; (try first | exact ⟨rfl, _, World.drewN_drewN _ _ _⟩ | exact ⟨rfl, _, Eq.trans (World.drewN_drewN _ _ _) (congrArg (World.drewN _) (Nat.add_assoc _ _ _))⟩))); try go_wp2_with (first | (go_at_call 42; (with_reducible refine (psalteryref13_Far.calls kj12 _ _ l4 false _ ?side1 ?side2 A20.out).mono ?_); (case side1 => repeat (first | exact (Kd.C_below HR4.out HB.out) | (with_reducible refine Kd.C_alloc ?_ _) | (with_reducible refine Kd.C_drewN ?_ _) | (with_reducible refine Kd.C_drew ?_))); (case side2 => exact HC4.out); rintro e w' ⟨rfl, ⟨nd, rfl⟩⟩; (try first | exact ⟨rfl, _, World.drewN_drewN _ _ _⟩ | exact ⟨rfl, _, Eq.trans (World.drewN_drewN _ _ _) (congrArg (World.drewN _) (Nat.add_assoc _ _ _))⟩)) | (go_at_call 42; (with_reducible refine (psalteryref13_Far.calls kj12 _ _ l5 t145 _ ?side1 ?side2 A22.out).mono ?_); (case side1 => repeat (first | exact (Kd.C_below HR5.out (by repeat (first | (with_reducible first | exact HB.out | apply below_alloc | apply pw_below_drewN | apply below_drew1) | exact HB.out))) | (with_reducible refine Kd.C_alloc ?_ _) | (with_reducible refine Kd.C_drewN ?_ _) | (with_reducible refine Kd.C_drew ?_))); (case side2 => exact HC5.out); rintro e w' ⟨rfl, ⟨nd, rfl⟩⟩; (try first | exact ⟨rfl, _, World.drewN_drewN _ _ _⟩ | exact ⟨rfl, _, Eq.trans (World.drewN_drewN _ _ _) (congrArg (World.drewN _) (Nat.add_assoc _ _ _))⟩))))
                    go_meet
                    case rel => exact ⟨_, (t145), (by first | rfl | (simp; done) | (simp [*]; done)), H', ⟨by have := HJ8.out; have := HJ12.out; first | omega | exact Nat.le_refl _⟩, ⟨by repeat (first | (with_reducible first | exact HB.out | apply below_alloc | apply pw_below_drewN | apply below_drew1) | exact HB.out)⟩⟩
              case rest =>
                clear HC18
                try clear c1
                try clear c2
                try clear p2
                try clear c4
                try clear c5
                try clear c8
                try clear c10
                try clear c10b0
                try clear c12
                try clear c14
                try clear c14b0
                try clear c14b1
                try clear c15
                try clear c19
                try clear c19b0
                try clear c21
                try clear p2
                obtain ⟨kq, x84_17, rfl, HA, HJ17, HB⟩ := hcut
                cases kq with
                | zero => exact absurd HA.out (by simp [psalterylaw13_QuantOrder.j2])
                | succ kj17 =>
                  have H := HA.out
                  clear HA
                  simp only [psalterylaw13_QuantOrder.j2] at H
                  by_cases c23 : x84_17 = true
                  · subst c23
                    have H1 : (some (decide (t140 ≤ t142))) = some r := by rw [if_pos rfl] at H; exact H
                    clear H
                    have H := H1
                    clear H1
                    obtain rfl := Option.some.inj H
                    go_wp2
                    repeat (go_quiet (fail); try go_wp2)
                    go_ret
                    exact ⟨by first | rfl | (simp [errW_none, errW_some] <;> rfl) | (simp [*, errW_none, errW_some] <;> rfl), by repeat (first | (with_reducible first | exact HB.out | apply below_alloc | apply pw_below_drewN | apply below_drew1) | exact HB.out)⟩
                  · replace c23 := Bool.eq_false_iff.mpr c23
                    subst c23
                    have H1 : ((quant_Middle.f l4 l5).bind fun bt146 => (if bt146.2.2 = 0 then ((quant_Sides.f bt146.1 bt146.2.1).bind fun bt153 => (if bt153.2.2 = 0 then (psalterylaw13_QuantOrder.l0 kj17 l4 l5 bt153.1 bt153.2.1 0) else (some false))) else (some ((bt146.1.length : Int) == 0)))) = some r := by rw [if_neg (show ¬ (false = true) by decide)] at H; exact H
                    clear H
                    have H := H1
                    clear H1
                    replace H := Option.bind_eq_some_iff.mp H
                    obtain ⟨⟨t146, t147, t148⟩, A240, H⟩ := H
                    replace H : (if t148 = 0 then ((quant_Sides.f t146 t147).bind fun bt153 => (if bt153.2.2 = 0 then (psalterylaw13_QuantOrder.l0 kj17 l4 l5 bt153.1 bt153.2.1 0) else (some false))) else (some ((t146.length : Int) == 0))) = some r := H
                    have A24 := Aside0.mk A240
                    clear A240
                    by_cases c25 : t148 = 0
                    · rw [if_pos c25] at H
                      have c25b0 : (t148 == 0) = true := beq_iff_eq.mpr c25
                      have c25b1 : (t148 != 0) = false := bne_eq_false_iff_eq.mpr c25
                      clear c25
                      replace H := Option.bind_eq_some_iff.mp H
                      obtain ⟨⟨t153, t154, t155⟩, A260, H⟩ := H
                      replace H : (if t155 = 0 then (psalterylaw13_QuantOrder.l0 kj17 l4 l5 t153 t154 0) else (some false)) = some r := H
                      have A26 := Aside0.mk A260
                      clear A260
                      by_cases c27 : t155 = 0
                      · rw [if_pos c27] at H
                        have c27b0 : (t155 == 0) = true := beq_iff_eq.mpr c27
                        have c27b1 : (t155 != 0) = false := bne_eq_false_iff_eq.mpr c27
                        clear c27
                        have H' := Aside0.mk H
                        clear H
                        go_wp2_with (first | (go_at_call 46; (with_reducible refine (quant_Middle.calls _ _ l4 _ _ l5 t146 t147 t148 _ ?side1 ?side2 ?side3 ?side4 A24.out).mono ?_); (case side1 => repeat (first | exact (Kd.C_below HR4.out HB.out) | (with_reducible refine Kd.C_alloc ?_ _) | (with_reducible refine Kd.C_drewN ?_ _) | (with_reducible refine Kd.C_drew ?_))); (case side2 => exact HC4.out); (case side3 => repeat (first | exact (Kd.C_below HR5.out HB.out) | (with_reducible refine Kd.C_alloc ?_ _) | (with_reducible refine Kd.C_drewN ?_ _) | (with_reducible refine Kd.C_drew ?_))); (case side4 => exact HC5.out); rintro e w28 ⟨v149, v151, rfl, ho0, ho1, hb⟩; have n0_ := Aside0.mk (Kd.S_lower ho0 (below_size (by repeat (first | (with_reducible first | exact HB.out | apply below_alloc | apply pw_below_drewN | apply below_drew1) | exact HB.out)))); have n1_ := Aside0.mk (Kd.S_lower ho1 (below_size (by repeat (first | (with_reducible first | exact HB.out | apply below_alloc | apply pw_below_drewN | apply below_drew1) | exact HB.out)))); have n2_ := Aside0.mk (below_step (by repeat (first | (with_reducible first | exact HB.out | apply below_alloc | apply pw_below_drewN | apply below_drew1) | exact HB.out)) hb); clear HB; have HO150 := n0_; have HO152 := n1_; have HB := n2_; clear n0_ n1_ n2_; (try clear hb); (try clear hb2); (try clear hk); (try clear hi); (try clear ho0); (try clear ho1); obtain ⟨Ao29, co29, eo29⟩ := Kd.S_slice HO150.out; subst eo29; obtain ⟨Ao30, co30, eo30⟩ := Kd.S_slice HO152.out; subst eo30) | (go_at_call 47; (with_reducible refine (quant_Sides.calls _ _ t146 _ _ t147 t153 t154 t155 _ ?side1 ?side2 ?side3 ?side4 A26.out).mono ?_); (case side1 => repeat (first | exact (Kd.S_reads' HO150.out).2.2 | (with_reducible refine Kd.C_alloc ?_ _) | (with_reducible refine Kd.C_drewN ?_ _) | (with_reducible refine Kd.C_drew ?_))); (case side2 => exact (Kd.S_reads' HO150.out).2.1); (case side3 => repeat (first | exact (Kd.S_reads' HO152.out).2.2 | (with_reducible refine Kd.C_alloc ?_ _) | (with_reducible refine Kd.C_drewN ?_ _) | (with_reducible refine Kd.C_drew ?_))); (case side4 => exact (Kd.S_reads' HO152.out).2.1); rintro e w31 ⟨v156, v158, rfl, ho0, ho1, hb⟩; have n0_ := Aside0.mk (Kd.S_mono (Kd.S_told (Kd.S_told (Kd.S_old (by (with_reducible repeat (first | apply Kd.S_alloc | apply Kd.S_drewN | apply Kd.S_drew)); exact HO150.out) hb) (Kd.S_base ho0)) (Kd.S_base ho1)) (fun _ h_ => h_.1)); have n1_ := Aside0.mk (Kd.S_mono (Kd.S_told (Kd.S_told (Kd.S_old (by (with_reducible repeat (first | apply Kd.S_alloc | apply Kd.S_drewN | apply Kd.S_drew)); exact HO152.out) hb) (Kd.S_base ho0)) (Kd.S_base ho1)) (fun _ h_ => h_.1)); have n2_ := Aside0.mk (Kd.S_lower (Kd.S_new' (Kd.S_new' ho0 (Kd.S_lt (by (with_reducible repeat (first | apply Kd.S_alloc | apply Kd.S_drewN | apply Kd.S_drew)); exact HO150.out))) (Kd.S_lt (by (with_reducible repeat (first | apply Kd.S_alloc | apply Kd.S_drewN | apply Kd.S_drew)); exact HO152.out))) (below_size (by repeat (first | (with_reducible first | exact HB.out | apply below_alloc | apply pw_below_drewN | apply below_drew1) | exact HB.out)))); have n3_ := Aside0.mk (Kd.S_lower (Kd.S_new' (Kd.S_new' ho1 (Kd.S_lt (by (with_reducible repeat (first | apply Kd.S_alloc | apply Kd.S_drewN | apply Kd.S_drew)); exact HO150.out))) (Kd.S_lt (by (with_reducible repeat (first | apply Kd.S_alloc | apply Kd.S_drewN | apply Kd.S_drew)); exact HO152.out))) (below_size (by repeat (first | (with_reducible first | exact HB.out | apply below_alloc | apply pw_below_drewN | apply below_drew1) | exact HB.out)))); have n4_ := Aside0.mk (below_step (by repeat (first | (with_reducible first | exact HB.out | apply below_alloc | apply pw_below_drewN | apply below_drew1) | exact HB.out)) hb); clear HO150; clear HO152; clear HB; have HO150 := n0_; have HO152 := n1_; have HO157 := n2_; have HO159 := n3_; have HB := n4_; clear n0_ n1_ n2_ n3_ n4_; (try clear hb); (try clear hb2); (try clear hk); (try clear hi); (try clear ho0); (try clear ho1)))
                        repeat (go_quiet (first | (go_at_call 46; (with_reducible refine (quant_Middle.calls _ _ l4 _ _ l5 t146 t147 t148 _ ?side1 ?side2 ?side3 ?side4 A24.out).mono ?_); (case side1 => repeat (first | exact (Kd.C_below HR4.out HB.out) | (with_reducible refine Kd.C_alloc ?_ _) | (with_reducible refine Kd.C_drewN ?_ _) | (with_reducible refine Kd.C_drew ?_))); (case side2 => exact HC4.out); (case side3 => repeat (first | exact (Kd.C_below HR5.out HB.out) | (with_reducible refine Kd.C_alloc ?_ _) | (with_reducible refine Kd.C_drewN ?_ _) | (with_reducible refine Kd.C_drew ?_))); (case side4 => exact HC5.out); rintro e w28 ⟨v149, v151, rfl, ho0, ho1, hb⟩; have n0_ := Aside0.mk (Kd.S_lower ho0 (below_size (by repeat (first | (with_reducible first | exact HB.out | apply below_alloc | apply pw_below_drewN | apply below_drew1) | exact HB.out)))); have n1_ := Aside0.mk (Kd.S_lower ho1 (below_size (by repeat (first | (with_reducible first | exact HB.out | apply below_alloc | apply pw_below_drewN | apply below_drew1) | exact HB.out)))); have n2_ := Aside0.mk (below_step (by repeat (first | (with_reducible first | exact HB.out | apply below_alloc | apply pw_below_drewN | apply below_drew1) | exact HB.out)) hb); clear HB; have HO150 := n0_; have HO152 := n1_; have HB := n2_; clear n0_ n1_ n2_; (try clear hb); (try clear hb2); (try clear hk); (try clear hi); (try clear ho0); (try clear ho1); obtain ⟨Ao29, co29, eo29⟩ := Kd.S_slice HO150.out; subst eo29; obtain ⟨Ao30, co30, eo30⟩ := Kd.S_slice HO152.out; subst eo30) | (go_at_call 47; (with_reducible refine (quant_Sides.calls _ _ t146 _ _ t147 t153 t154 t155 _ ?side1 ?side2 ?side3 ?side4 A26.out).mono ?_); (case side1 => repeat (first | exact (Kd.S_reads' HO150.out).2.2 | (with_reducible refine Kd.C_alloc ?_ _) | (with_reducible refine Kd.C_drewN ?_ _) | (with_reducible refine Kd.C_drew ?_))); (case side2 => exact (Kd.S_reads' HO150.out).2.1); (case side3 => repeat (first | exact (Kd.S_reads' HO152.out).2.2 | (with_reducible refine Kd.C_alloc ?_ _) | (with_reducible refine Kd.C_drewN ?_ _) | (with_reducible refine Kd.C_drew ?_))); (case side4 => exact (Kd.S_reads' HO152.out).2.1); rintro e w31 ⟨v156, v158, rfl, ho0, ho1, hb⟩; have n0_ := Aside0.mk (Kd.S_mono (Kd.S_told (Kd.S_told (Kd.S_old (by (with_reducible repeat (first | apply Kd.S_alloc | apply Kd.S_drewN | apply Kd.S_drew)); exact HO150.out) hb) (Kd.S_base ho0)) (Kd.S_base ho1)) (fun _ h_ => h_.1)); have n1_ := Aside0.mk (Kd.S_mono (Kd.S_told (Kd.S_told (Kd.S_old (by (with_reducible repeat (first | apply Kd.S_alloc | apply Kd.S_drewN | apply Kd.S_drew)); exact HO152.out) hb) (Kd.S_base ho0)) (Kd.S_base ho1)) (fun _ h_ => h_.1)); have n2_ := Aside0.mk (Kd.S_lower (Kd.S_new' (Kd.S_new' ho0 (Kd.S_lt (by (with_reducible repeat (first | apply Kd.S_alloc | apply Kd.S_drewN | apply Kd.S_drew)); exact HO150.out))) (Kd.S_lt (by (with_reducible repeat (first | apply Kd.S_alloc | apply Kd.S_drewN | apply Kd.S_drew)); exact HO152.out))) (below_size (by repeat (first | (with_reducible first | exact HB.out | apply below_alloc | apply pw_below_drewN | apply below_drew1) | exact HB.out)))); have n3_ := Aside0.mk (Kd.S_lower (Kd.S_new' (Kd.S_new' ho1 (Kd.S_lt (by (with_reducible repeat (first | apply Kd.S_alloc | apply Kd.S_drewN | apply Kd.S_drew)); exact HO150.out))) (Kd.S_lt (by (with_reducible repeat (first | apply Kd.S_alloc | apply Kd.S_drewN | apply Kd.S_drew)); exact HO152.out))) (below_size (by repeat (first | (with_reducible first | exact HB.out | apply below_alloc | apply pw_below_drewN | apply below_drew1) | exact HB.out)))); have n4_ := Aside0.mk (below_step (by repeat (first | (with_reducible first | exact HB.out | apply below_alloc | apply pw_below_drewN | apply below_drew1) | exact HB.out)) hb); clear HO150; clear HO152; clear HB; have HO150 := n0_; have HO152 := n1_; have HO157 := n2_; have HO159 := n3_; have HB := n4_; clear n0_ n1_ n2_ n3_ n4_; (try clear hb); (try clear hb2); (try clear hk); (try clear hi); (try clear ho0); (try clear ho1))); try go_wp2_with (first | (go_at_call 46; (with_reducible refine (quant_Middle.calls _ _ l4 _ _ l5 t146 t147 t148 _ ?side1 ?side2 ?side3 ?side4 A24.out).mono ?_); (case side1 => repeat (first | exact (Kd.C_below HR4.out HB.out) | (with_reducible refine Kd.C_alloc ?_ _) | (with_reducible refine Kd.C_drewN ?_ _) | (with_reducible refine Kd.C_drew ?_))); (case side2 => exact HC4.out); (case side3 => repeat (first | exact (Kd.C_below HR5.out HB.out) | (with_reducible refine Kd.C_alloc ?_ _) | (with_reducible refine Kd.C_drewN ?_ _) | (with_reducible refine Kd.C_drew ?_))); (case side4 => exact HC5.out); rintro e w28 ⟨v149, v151, rfl, ho0, ho1, hb⟩; have n0_ := Aside0.mk (Kd.S_lower ho0 (below_size (by repeat (first | (with_reducible first | exact HB.out | apply below_alloc | apply pw_below_drewN | apply below_drew1) | exact HB.out)))); have n1_ := Aside0.mk (Kd.S_lower ho1 (below_size (by repeat (first | (with_reducible first | exact HB.out | apply below_alloc | apply pw_below_drewN | apply below_drew1) | exact HB.out)))); have n2_ := Aside0.mk (below_step (by repeat (first | (with_reducible first | exact HB.out | apply below_alloc | apply pw_below_drewN | apply below_drew1) | exact HB.out)) hb); clear HB; have HO150 := n0_; have HO152 := n1_; have HB := n2_; clear n0_ n1_ n2_; (try clear hb); (try clear hb2); (try clear hk); (try clear hi); (try clear ho0); (try clear ho1); obtain ⟨Ao29, co29, eo29⟩ := Kd.S_slice HO150.out; subst eo29; obtain ⟨Ao30, co30, eo30⟩ := Kd.S_slice HO152.out; subst eo30) | (go_at_call 47; (with_reducible refine (quant_Sides.calls _ _ t146 _ _ t147 t153 t154 t155 _ ?side1 ?side2 ?side3 ?side4 A26.out).mono ?_); (case side1 => repeat (first | exact (Kd.S_reads' HO150.out).2.2 | (with_reducible refine Kd.C_alloc ?_ _) | (with_reducible refine Kd.C_drewN ?_ _) | (with_reducible refine Kd.C_drew ?_))); (case side2 => exact (Kd.S_reads' HO150.out).2.1); (case side3 => repeat (first | exact (Kd.S_reads' HO152.out).2.2 | (with_reducible refine Kd.C_alloc ?_ _) | (with_reducible refine Kd.C_drewN ?_ _) | (with_reducible refine Kd.C_drew ?_))); (case side4 => exact (Kd.S_reads' HO152.out).2.1); rintro e w31 ⟨v156, v158, rfl, ho0, ho1, hb⟩; have n0_ := Aside0.mk (Kd.S_mono (Kd.S_told (Kd.S_told (Kd.S_old (by (with_reducible repeat (first | apply Kd.S_alloc | apply Kd.S_drewN | apply Kd.S_drew)); exact HO150.out) hb) (Kd.S_base ho0)) (Kd.S_base ho1)) (fun _ h_ => h_.1)); have n1_ := Aside0.mk (Kd.S_mono (Kd.S_told (Kd.S_told (Kd.S_old (by (with_reducible repeat (first | apply Kd.S_alloc | apply Kd.S_drewN | apply Kd.S_drew)); exact HO152.out) hb) (Kd.S_base ho0)) (Kd.S_base ho1)) (fun _ h_ => h_.1)); have n2_ := Aside0.mk (Kd.S_lower (Kd.S_new' (Kd.S_new' ho0 (Kd.S_lt (by (with_reducible repeat (first | apply Kd.S_alloc | apply Kd.S_drewN | apply Kd.S_drew)); exact HO150.out))) (Kd.S_lt (by (with_reducible repeat (first | apply Kd.S_alloc | apply Kd.S_drewN | apply Kd.S_drew)); exact HO152.out))) (below_size (by repeat (first | (with_reducible first | exact HB.out | apply below_alloc | apply pw_below_drewN | apply below_drew1) | exact HB.out)))); have n3_ := Aside0.mk (Kd.S_lower (Kd.S_new' (Kd.S_new' ho1 (Kd.S_lt (by (with_reducible repeat (first | apply Kd.S_alloc | apply Kd.S_drewN | apply Kd.S_drew)); exact HO150.out))) (Kd.S_lt (by (with_reducible repeat (first | apply Kd.S_alloc | apply Kd.S_drewN | apply Kd.S_drew)); exact HO152.out))) (below_size (by repeat (first | (with_reducible first | exact HB.out | apply below_alloc | apply pw_below_drewN | apply below_drew1) | exact HB.out)))); have n4_ := Aside0.mk (below_step (by repeat (first | (with_reducible first | exact HB.out | apply below_alloc | apply pw_below_drewN | apply below_drew1) | exact HB.out)) hb); clear HO150; clear HO152; clear HB; have HO150 := n0_; have HO152 := n1_; have HO157 := n2_; have HO159 := n3_; have HB := n4_; clear n0_ n1_ n2_ n3_ n4_; (try clear hb); (try clear hb2); (try clear hk); (try clear hi); (try clear ho0); (try clear ho1))))
                        go_loopg [27] kj17 (fun kq v27 w' => ∃ (x27_4 : Int), v27 = .int .i64 x27_4 ∧ Aside0 (psalterylaw13_QuantOrder.l0 kq l4 l5 t153 t154 x27_4 = some r) ∧ Aside0 (kq ≤ kj17) ∧ Aside0 (Kd.S (Kd.slice 21 (Kd.int .i32)) 55 w' w.heap.size (fun k_ => some k_ ≠ (v158 : Value).ownBlock) v156 t153) ∧ Aside0 (Kd.S (Kd.slice 21 (Kd.int .i32)) 55 w' w.heap.size (fun k_ => some k_ ≠ (v156 : Value).ownBlock) v158 t154) ∧ Aside0 (Below w.heap.size w w'))
                        case atStart => exact ⟨(0), (by first | rfl | (simp; done) | (simp [*]; done)), H', ⟨Nat.le_refl _⟩, ⟨by (with_reducible repeat (first | apply Kd.S_alloc | apply Kd.S_drewN | apply Kd.S_drew)); exact Kd.S_mono HO157.out (fun _ hk => hk.1.1)⟩, ⟨by (with_reducible repeat (first | apply Kd.S_alloc | apply Kd.S_drewN | apply Kd.S_drew)); exact Kd.S_mono HO159.out (fun _ hk => hk.1.1)⟩, ⟨by repeat (first | (with_reducible first | exact HB.out | apply below_alloc | apply pw_below_drewN | apply below_drew1) | exact HB.out)⟩⟩
                        case round =>
                          clear H'
                          try clear c1
                          try clear c2
                          try clear p2
                          try clear c4
                          try clear c5
                          try clear c8
                          try clear c10
                          try clear c10b0
                          try clear c12
                          try clear c14
                          try clear c14b0
                          try clear c14b1
                          try clear c15
                          try clear c19
                          try clear c19b0
                          try clear c21
                          try clear c23
                          try clear c25
                          try clear c25b0
                          try clear c25b1
                          try clear c27
                          try clear c27b0
                          try clear c27b1
                          try clear p2
                          obtain ⟨x27_4, rfl, HA, HK4, HO_24, HO_25, HB⟩ := hrel
                          cases gk with
                          | zero => exact absurd HA.out (by simp [psalterylaw13_QuantOrder.l0])
                          | succ k4 =>
                            have H := HA.out
                            clear HA
                            simp only [psalterylaw13_QuantOrder.l0] at H
                            by_cases c32 : x27_4 < (l4.length : Int)
                            · rw [if_pos c32] at H
                              have c32b0 : decide (x27_4 < (l4.length : Int)) = true := decide_eq_true c32
                              clear c32
                              have H' := Aside0.mk H
                              clear H
                              go_wp2
                              repeat (go_quiet (fail); try go_wp2)
                              go_loopg [28] k4 (fun kq v28 w' => ∃ (x28_5 : Int), v28 = .int .i64 x28_5 ∧ Aside0 (psalterylaw13_QuantOrder.l1 kq l4 l5 t153 t154 x27_4 x28_5 = some r) ∧ Aside0 (kq ≤ k4) ∧ Aside0 (Kd.S (Kd.slice 21 (Kd.int .i32)) 55 w' w.heap.size (fun k_ => some k_ ≠ (v158 : Value).ownBlock) v156 t153) ∧ Aside0 (Kd.S (Kd.slice 21 (Kd.int .i32)) 55 w' w.heap.size (fun k_ => some k_ ≠ (v156 : Value).ownBlock) v158 t154) ∧ Aside0 (Below w.heap.size w w'))
                              case atStart => exact ⟨(0), (by first | rfl | (simp; done) | (simp [*]; done)), H', ⟨Nat.le_refl _⟩, ⟨by (with_reducible repeat (first | apply Kd.S_alloc | apply Kd.S_drewN | apply Kd.S_drew)); exact HO_24.out⟩, ⟨by (with_reducible repeat (first | apply Kd.S_alloc | apply Kd.S_drewN | apply Kd.S_drew)); exact HO_25.out⟩, ⟨by repeat (first | (with_reducible first | exact HB.out | apply below_alloc | apply pw_below_drewN | apply below_drew1) | exact HB.out)⟩⟩
                              case round =>
                                clear H'
                                try clear c1
                                try clear c2
                                try clear p2
                                try clear c3
                                try clear c4
                                try clear c5
                                try clear c8
                                try clear c10
                                try clear c10b0
                                try clear c12
                                try clear c14
                                try clear c14b0
                                try clear c14b1
                                try clear c15
                                try clear c19
                                try clear c19b0
                                try clear c21
                                try clear c23
                                try clear c25
                                try clear c25b0
                                try clear c25b1
                                try clear c27
                                try clear c27b0
                                try clear c27b1
                                try clear c32
                                try clear c32b0
                                try clear p2
                                obtain ⟨x28_5, rfl, HA, HK5, HO_24, HO_25, HB⟩ := hrel
                                cases gk with
                                | zero => exact absurd HA.out (by simp [psalterylaw13_QuantOrder.l1])
                                | succ k5 =>
                                  have H := HA.out
                                  clear HA
                                  simp only [psalterylaw13_QuantOrder.l1] at H
                                  by_cases c33 : 0 ≤ x27_4
                                  · rw [if_pos c33] at H
                                    have c33b0 : decide (0 ≤ x27_4) = true := decide_eq_true c33
                                    clear c33
                                    by_cases c34 : x27_4 < (l4.length : Int)
                                    · rw [if_pos c34] at H
                                      have c34b0 : decide (x27_4 < (l4.length : Int)) = true := decide_eq_true c34
                                      clear c34
                                      by_cases c35 : x28_5 < ((rd_L1 l4 x27_4).length : Int)
                                      · rw [if_pos c35] at H
                                        have c35b0 : decide (x28_5 < ((rd_L1 l4 x27_4).length : Int)) = true := decide_eq_true c35
                                        clear c35
                                        by_cases c36 : 0 ≤ x28_5
                                        · rw [if_pos c36] at H
                                          have c36b0 : decide (0 ≤ x28_5) = true := decide_eq_true c36
                                          clear c36
                                          by_cases c37 : x27_4 < (t153.length : Int)
                                          · rw [if_pos c37] at H
                                            have c37b0 : decide (x27_4 < (t153.length : Int)) = true := decide_eq_true c37
                                            clear c37
                                            by_cases c38 : x28_5 < ((rd_L1 t153 x27_4).length : Int)
                                            · rw [if_pos c38] at H
                                              have c38b0 : decide (x28_5 < ((rd_L1 t153 x27_4).length : Int)) = true := decide_eq_true c38
                                              clear c38
                                              by_cases c39 : x27_4 < (l5.length : Int)
                                              · rw [if_pos c39] at H
                                                have c39b0 : decide (x27_4 < (l5.length : Int)) = true := decide_eq_true c39
                                                clear c39
                                                by_cases c40 : x28_5 < ((rd_L1 l5 x27_4).length : Int)
                                                · rw [if_pos c40] at H
                                                  have c40b0 : decide (x28_5 < ((rd_L1 l5 x27_4).length : Int)) = true := decide_eq_true c40
                                                  clear c40
                                                  by_cases c41 : x27_4 < (t154.length : Int)
                                                  · rw [if_pos c41] at H
                                                    have c41b0 : decide (x27_4 < (t154.length : Int)) = true := decide_eq_true c41
                                                    clear c41
                                                    by_cases c42 : x28_5 < ((rd_L1 t154 x27_4).length : Int)
                                                    · rw [if_pos c42] at H
                                                      have c42b0 : decide (x28_5 < ((rd_L1 t154 x27_4).length : Int)) = true := decide_eq_true c42
                                                      clear c42
                                                      by_cases c43 : (wrap64 ((wrap64 (rd (rd_L1 l4 x27_4) x28_5)) - (wrap64 (rd (rd_L1 t153 x27_4) x28_5)))) < 0
                                                      · rw [if_pos c43] at H
                                                        have c43b0 : decide ((wrap64 ((wrap64 (rd (rd_L1 l4 x27_4) x28_5)) - (wrap64 (rd (rd_L1 t153 x27_4) x28_5)))) < 0) = true := decide_eq_true c43
                                                        clear c43
                                                        obtain rfl := Option.some.inj H
                                                        have p160 : 0 ≤ (x27_4 : Int) := of_decide_eq_true (by first | (with_reducible assumption) | assumption)
                                                        have q160 : x27_4 < (l4.length : Int) := of_decide_eq_true (by first | (with_reducible assumption) | assumption)
                                                        obtain ⟨ad160, A160_0, c160_0, e160, hx160_0, hl160_0, hi160_0⟩ := at_L1 HR4.out x27_4 p160 q160
                                                        cases e160
                                                        replace hx160_0 := (HB.out.cell (World.block_lt_of_cell? w _ hx160_0)).trans hx160_0
                                                        have HR160_0 := Aside0.mk hi160_0
                                                        have HC160_0 := Aside0.mk hl160_0
                                                        clear hi160_0 hl160_0
                                                        replace p160 := eq_true p160
                                                        replace q160 := eq_true q160
                                                        have p161 : 0 ≤ (x27_4 : Int) := of_decide_eq_true (by first | (with_reducible assumption) | assumption)
                                                        have q161 : x27_4 < (l4.length : Int) := of_decide_eq_true (by first | (with_reducible assumption) | assumption)
                                                        obtain ⟨ad161, A161_0, c161_0, e161, hx161_0, hl161_0, hi161_0⟩ := at_L1 HR4.out x27_4 p161 q161
                                                        obtain rfl : ad160 = ad161 := (by injection e161)
                                                        replace hx161_0 := (HB.out.cell (World.block_lt_of_cell? w _ hx161_0)).trans hx161_0
                                                        have HR161_0 := Aside0.mk hi161_0
                                                        have HC161_0 := Aside0.mk hl161_0
                                                        clear hi161_0 hl161_0
                                                        replace p161 := eq_true p161
                                                        replace q161 := eq_true q161
                                                        have ea_ := Option.some.inj (hx160_0.symm.trans hx161_0)
                                                        injection ea_ with ea_ en_ ec_
                                                        subst ea_
                                                        subst ec_
                                                        clear en_
                                                        have p162 : 0 ≤ (x28_5 : Int) := of_decide_eq_true (by first | (with_reducible assumption) | assumption)
                                                        have q162 : x28_5 < ((rd_L1 l4 x27_4).length : Int) := of_decide_eq_true (by first | (with_reducible assumption) | assumption)
                                                        obtain ⟨ad162, e162, hx162_0⟩ := Kd.at_int HR161_0.out x28_5 p162 q162
                                                        cases e162
                                                        replace hx162_0 := (HB.out.cell (World.block_lt_of_cell? w _ hx162_0)).trans hx162_0
                                                        replace p162 := eq_true p162
                                                        replace q162 := eq_true q162
                                                        obtain ⟨Ao44, co44, eo44⟩ := Kd.S_slice HO_24.out
                                                        subst eo44
                                                        have p163 : 0 ≤ (x27_4 : Int) := of_decide_eq_true (by first | (with_reducible assumption) | assumption)
                                                        have q163 : x27_4 < (t153.length : Int) := of_decide_eq_true (by first | (with_reducible assumption) | assumption)
                                                        obtain ⟨ad163, A163_0, c163_0, e163, hx163_0, hl163_0, hi163_0⟩ := at_L1 (Kd.S_reads' HO_24.out).2.2 x27_4 p163 q163
                                                        cases e163
                                                        obtain ⟨ce163, hce163, hMe163, hcc163⟩ := Kd.S_get HO_24.out [] x27_4 p163 (by first | exact q163 | exact of_decide_eq_true (by first | (with_reducible assumption) | assumption) | (have e_ := (Kd.S_reads' HO_24.out).1; omega))
                                                        obtain ⟨ve163_0, rfl, ge163_0⟩ := hMe163
                                                        have hv163_0 := hcc163 0 _ rfl
                                                        rw [Nat.add_zero, show ((Kd.slice 21 (Kd.int .i32))).sz = 1 from rfl, Nat.mul_one] at hv163_0
                                                        replace hv163_0 := Option.some.inj (hv163_0.symm.trans hx163_0)
                                                        rw [hv163_0] at ge163_0
                                                        have HL163_0 := Aside0.mk (show Kd.R (Kd.int .i32) 21 _ _ _ _ (rd_L1 t153 x27_4) from ge163_0)
                                                        clear hv163_0 ge163_0
                                                        clear hcc163 hce163
                                                        have HR163_0 := Aside0.mk hi163_0
                                                        have HC163_0 := Aside0.mk hl163_0
                                                        clear hi163_0 hl163_0
                                                        replace p163 := eq_true p163
                                                        replace q163 := eq_true q163
                                                        have p164 : 0 ≤ (x28_5 : Int) := of_decide_eq_true (by first | (with_reducible assumption) | assumption)
                                                        have q164 : x28_5 < ((rd_L1 t153 x27_4).length : Int) := of_decide_eq_true (by first | (with_reducible assumption) | assumption)
                                                        obtain ⟨ad164, e164, hx164_0⟩ := Kd.at_int (by repeat (first | (with_reducible exact HR163_0.out) | (with_reducible refine Kd.C_alloc ?_ _) | (with_reducible refine Kd.C_drewN ?_ _) | (with_reducible refine Kd.C_drew ?_) | exact HR163_0.out)) x28_5 p164 q164
                                                        cases e164
                                                        replace p164 := eq_true p164
                                                        replace q164 := eq_true q164
                                                        have p165 : 0 ≤ (x27_4 : Int) := of_decide_eq_true (by first | (with_reducible assumption) | assumption)
                                                        have q165 : x27_4 < (l5.length : Int) := of_decide_eq_true (by first | (with_reducible assumption) | assumption)
                                                        obtain ⟨ad165, A165_0, c165_0, e165, hx165_0, hl165_0, hi165_0⟩ := at_L1 HR5.out x27_4 p165 q165
                                                        cases e165
                                                        replace hx165_0 := (HB.out.cell (World.block_lt_of_cell? w _ hx165_0)).trans hx165_0
                                                        have HR165_0 := Aside0.mk hi165_0
                                                        have HC165_0 := Aside0.mk hl165_0
                                                        clear hi165_0 hl165_0
                                                        replace p165 := eq_true p165
                                                        replace q165 := eq_true q165
                                                        have p166 : 0 ≤ (x28_5 : Int) := of_decide_eq_true (by first | (with_reducible assumption) | assumption)
                                                        have q166 : x28_5 < ((rd_L1 l5 x27_4).length : Int) := of_decide_eq_true (by first | (with_reducible assumption) | assumption)
                                                        obtain ⟨ad166, e166, hx166_0⟩ := Kd.at_int HR165_0.out x28_5 p166 q166
                                                        cases e166
                                                        replace hx166_0 := (HB.out.cell (World.block_lt_of_cell? w _ hx166_0)).trans hx166_0
                                                        replace p166 := eq_true p166
                                                        replace q166 := eq_true q166
                                                        obtain ⟨Ao45, co45, eo45⟩ := Kd.S_slice HO_25.out
                                                        subst eo45
                                                        have p167 : 0 ≤ (x27_4 : Int) := of_decide_eq_true (by first | (with_reducible assumption) | assumption)
                                                        have q167 : x27_4 < (t154.length : Int) := of_decide_eq_true (by first | (with_reducible assumption) | assumption)
                                                        obtain ⟨ad167, A167_0, c167_0, e167, hx167_0, hl167_0, hi167_0⟩ := at_L1 (Kd.S_reads' HO_25.out).2.2 x27_4 p167 q167
                                                        cases e167
                                                        obtain ⟨ce167, hce167, hMe167, hcc167⟩ := Kd.S_get HO_25.out [] x27_4 p167 (by first | exact q167 | exact of_decide_eq_true (by first | (with_reducible assumption) | assumption) | (have e_ := (Kd.S_reads' HO_25.out).1; omega))
                                                        obtain ⟨ve167_0, rfl, ge167_0⟩ := hMe167
                                                        have hv167_0 := hcc167 0 _ rfl
                                                        rw [Nat.add_zero, show ((Kd.slice 21 (Kd.int .i32))).sz = 1 from rfl, Nat.mul_one] at hv167_0
                                                        replace hv167_0 := Option.some.inj (hv167_0.symm.trans hx167_0)
                                                        rw [hv167_0] at ge167_0
                                                        have HL167_0 := Aside0.mk (show Kd.R (Kd.int .i32) 21 _ _ _ _ (rd_L1 t154 x27_4) from ge167_0)
                                                        clear hv167_0 ge167_0
                                                        clear hcc167 hce167
                                                        have HR167_0 := Aside0.mk hi167_0
                                                        have HC167_0 := Aside0.mk hl167_0
                                                        clear hi167_0 hl167_0
                                                        replace p167 := eq_true p167
                                                        replace q167 := eq_true q167
                                                        have p168 : 0 ≤ (x28_5 : Int) := of_decide_eq_true (by first | (with_reducible assumption) | assumption)
                                                        have q168 : x28_5 < ((rd_L1 t154 x27_4).length : Int) := of_decide_eq_true (by first | (with_reducible assumption) | assumption)
                                                        obtain ⟨ad168, e168, hx168_0⟩ := Kd.at_int (by repeat (first | (with_reducible exact HR167_0.out) | (with_reducible refine Kd.C_alloc ?_ _) | (with_reducible refine Kd.C_drewN ?_ _) | (with_reducible refine Kd.C_drew ?_) | exact HR167_0.out)) x28_5 p168 q168
                                                        cases e168
                                                        replace p168 := eq_true p168
                                                        replace q168 := eq_true q168
                                                        go_wp2
                                                        repeat (go_quiet (fail); try go_wp2)
                                                        go_ret
                                                        exact ⟨by first | rfl | (simp [errW_none, errW_some] <;> rfl) | (simp [*, errW_none, errW_some] <;> rfl), by repeat (first | (with_reducible first | exact HB.out | apply below_alloc | apply pw_below_drewN | apply below_drew1) | exact HB.out)⟩
                                                      · rw [if_neg c43] at H
                                                        have c43b0 : decide ((wrap64 ((wrap64 (rd (rd_L1 l4 x27_4) x28_5)) - (wrap64 (rd (rd_L1 t153 x27_4) x28_5)))) < 0) = false := decide_eq_false c43
                                                        clear c43
                                                        by_cases c46 : (wrap64 ((wrap64 (rd (rd_L1 l4 x27_4) x28_5)) - (wrap64 (rd (rd_L1 t153 x27_4) x28_5)))) > 1
                                                        · rw [if_pos c46] at H
                                                          have c46b0 : decide (1 < (wrap64 ((wrap64 (rd (rd_L1 l4 x27_4) x28_5)) - (wrap64 (rd (rd_L1 t153 x27_4) x28_5))))) = true := decide_eq_true c46
                                                          clear c46
                                                          obtain rfl := Option.some.inj H
                                                          have p160 : 0 ≤ (x27_4 : Int) := of_decide_eq_true (by first | (with_reducible assumption) | assumption)
                                                          have q160 : x27_4 < (l4.length : Int) := of_decide_eq_true (by first | (with_reducible assumption) | assumption)
                                                          obtain ⟨ad160, A160_0, c160_0, e160, hx160_0, hl160_0, hi160_0⟩ := at_L1 HR4.out x27_4 p160 q160
                                                          cases e160
                                                          replace hx160_0 := (HB.out.cell (World.block_lt_of_cell? w _ hx160_0)).trans hx160_0
                                                          have HR160_0 := Aside0.mk hi160_0
                                                          have HC160_0 := Aside0.mk hl160_0
                                                          clear hi160_0 hl160_0
                                                          replace p160 := eq_true p160
                                                          replace q160 := eq_true q160
                                                          have p161 : 0 ≤ (x27_4 : Int) := of_decide_eq_true (by first | (with_reducible assumption) | assumption)
                                                          have q161 : x27_4 < (l4.length : Int) := of_decide_eq_true (by first | (with_reducible assumption) | assumption)
                                                          obtain ⟨ad161, A161_0, c161_0, e161, hx161_0, hl161_0, hi161_0⟩ := at_L1 HR4.out x27_4 p161 q161
                                                          obtain rfl : ad160 = ad161 := (by injection e161)
                                                          replace hx161_0 := (HB.out.cell (World.block_lt_of_cell? w _ hx161_0)).trans hx161_0
                                                          have HR161_0 := Aside0.mk hi161_0
                                                          have HC161_0 := Aside0.mk hl161_0
                                                          clear hi161_0 hl161_0
                                                          replace p161 := eq_true p161
                                                          replace q161 := eq_true q161
                                                          have ea_ := Option.some.inj (hx160_0.symm.trans hx161_0)
                                                          injection ea_ with ea_ en_ ec_
                                                          subst ea_
                                                          subst ec_
                                                          clear en_
                                                          have p162 : 0 ≤ (x28_5 : Int) := of_decide_eq_true (by first | (with_reducible assumption) | assumption)
                                                          have q162 : x28_5 < ((rd_L1 l4 x27_4).length : Int) := of_decide_eq_true (by first | (with_reducible assumption) | assumption)
                                                          obtain ⟨ad162, e162, hx162_0⟩ := Kd.at_int HR161_0.out x28_5 p162 q162
                                                          cases e162
                                                          replace hx162_0 := (HB.out.cell (World.block_lt_of_cell? w _ hx162_0)).trans hx162_0
                                                          replace p162 := eq_true p162
                                                          replace q162 := eq_true q162
                                                          obtain ⟨Ao47, co47, eo47⟩ := Kd.S_slice HO_24.out
                                                          subst eo47
                                                          have p163 : 0 ≤ (x27_4 : Int) := of_decide_eq_true (by first | (with_reducible assumption) | assumption)
                                                          have q163 : x27_4 < (t153.length : Int) := of_decide_eq_true (by first | (with_reducible assumption) | assumption)
                                                          obtain ⟨ad163, A163_0, c163_0, e163, hx163_0, hl163_0, hi163_0⟩ := at_L1 (Kd.S_reads' HO_24.out).2.2 x27_4 p163 q163
                                                          cases e163
                                                          obtain ⟨ce163, hce163, hMe163, hcc163⟩ := Kd.S_get HO_24.out [] x27_4 p163 (by first | exact q163 | exact of_decide_eq_true (by first | (with_reducible assumption) | assumption) | (have e_ := (Kd.S_reads' HO_24.out).1; omega))
                                                          obtain ⟨ve163_0, rfl, ge163_0⟩ := hMe163
                                                          have hv163_0 := hcc163 0 _ rfl
                                                          rw [Nat.add_zero, show ((Kd.slice 21 (Kd.int .i32))).sz = 1 from rfl, Nat.mul_one] at hv163_0
                                                          replace hv163_0 := Option.some.inj (hv163_0.symm.trans hx163_0)
                                                          rw [hv163_0] at ge163_0
                                                          have HL163_0 := Aside0.mk (show Kd.R (Kd.int .i32) 21 _ _ _ _ (rd_L1 t153 x27_4) from ge163_0)
                                                          clear hv163_0 ge163_0
                                                          clear hcc163 hce163
                                                          have HR163_0 := Aside0.mk hi163_0
                                                          have HC163_0 := Aside0.mk hl163_0
                                                          clear hi163_0 hl163_0
                                                          replace p163 := eq_true p163
                                                          replace q163 := eq_true q163
                                                          have p164 : 0 ≤ (x28_5 : Int) := of_decide_eq_true (by first | (with_reducible assumption) | assumption)
                                                          have q164 : x28_5 < ((rd_L1 t153 x27_4).length : Int) := of_decide_eq_true (by first | (with_reducible assumption) | assumption)
                                                          obtain ⟨ad164, e164, hx164_0⟩ := Kd.at_int (by repeat (first | (with_reducible exact HR163_0.out) | (with_reducible refine Kd.C_alloc ?_ _) | (with_reducible refine Kd.C_drewN ?_ _) | (with_reducible refine Kd.C_drew ?_) | exact HR163_0.out)) x28_5 p164 q164
                                                          cases e164
                                                          replace p164 := eq_true p164
                                                          replace q164 := eq_true q164
                                                          have p165 : 0 ≤ (x27_4 : Int) := of_decide_eq_true (by first | (with_reducible assumption) | assumption)
                                                          have q165 : x27_4 < (l5.length : Int) := of_decide_eq_true (by first | (with_reducible assumption) | assumption)
                                                          obtain ⟨ad165, A165_0, c165_0, e165, hx165_0, hl165_0, hi165_0⟩ := at_L1 HR5.out x27_4 p165 q165
                                                          cases e165
                                                          replace hx165_0 := (HB.out.cell (World.block_lt_of_cell? w _ hx165_0)).trans hx165_0
                                                          have HR165_0 := Aside0.mk hi165_0
                                                          have HC165_0 := Aside0.mk hl165_0
                                                          clear hi165_0 hl165_0
                                                          replace p165 := eq_true p165
                                                          replace q165 := eq_true q165
                                                          have p166 : 0 ≤ (x28_5 : Int) := of_decide_eq_true (by first | (with_reducible assumption) | assumption)
                                                          have q166 : x28_5 < ((rd_L1 l5 x27_4).length : Int) := of_decide_eq_true (by first | (with_reducible assumption) | assumption)
                                                          obtain ⟨ad166, e166, hx166_0⟩ := Kd.at_int HR165_0.out x28_5 p166 q166
                                                          cases e166
                                                          replace hx166_0 := (HB.out.cell (World.block_lt_of_cell? w _ hx166_0)).trans hx166_0
                                                          replace p166 := eq_true p166
                                                          replace q166 := eq_true q166
                                                          obtain ⟨Ao48, co48, eo48⟩ := Kd.S_slice HO_25.out
                                                          subst eo48
                                                          have p167 : 0 ≤ (x27_4 : Int) := of_decide_eq_true (by first | (with_reducible assumption) | assumption)
                                                          have q167 : x27_4 < (t154.length : Int) := of_decide_eq_true (by first | (with_reducible assumption) | assumption)
                                                          obtain ⟨ad167, A167_0, c167_0, e167, hx167_0, hl167_0, hi167_0⟩ := at_L1 (Kd.S_reads' HO_25.out).2.2 x27_4 p167 q167
                                                          cases e167
                                                          obtain ⟨ce167, hce167, hMe167, hcc167⟩ := Kd.S_get HO_25.out [] x27_4 p167 (by first | exact q167 | exact of_decide_eq_true (by first | (with_reducible assumption) | assumption) | (have e_ := (Kd.S_reads' HO_25.out).1; omega))
                                                          obtain ⟨ve167_0, rfl, ge167_0⟩ := hMe167
                                                          have hv167_0 := hcc167 0 _ rfl
                                                          rw [Nat.add_zero, show ((Kd.slice 21 (Kd.int .i32))).sz = 1 from rfl, Nat.mul_one] at hv167_0
                                                          replace hv167_0 := Option.some.inj (hv167_0.symm.trans hx167_0)
                                                          rw [hv167_0] at ge167_0
                                                          have HL167_0 := Aside0.mk (show Kd.R (Kd.int .i32) 21 _ _ _ _ (rd_L1 t154 x27_4) from ge167_0)
                                                          clear hv167_0 ge167_0
                                                          clear hcc167 hce167
                                                          have HR167_0 := Aside0.mk hi167_0
                                                          have HC167_0 := Aside0.mk hl167_0
                                                          clear hi167_0 hl167_0
                                                          replace p167 := eq_true p167
                                                          replace q167 := eq_true q167
                                                          have p168 : 0 ≤ (x28_5 : Int) := of_decide_eq_true (by first | (with_reducible assumption) | assumption)
                                                          have q168 : x28_5 < ((rd_L1 t154 x27_4).length : Int) := of_decide_eq_true (by first | (with_reducible assumption) | assumption)
                                                          obtain ⟨ad168, e168, hx168_0⟩ := Kd.at_int (by repeat (first | (with_reducible exact HR167_0.out) | (with_reducible refine Kd.C_alloc ?_ _) | (with_reducible refine Kd.C_drewN ?_ _) | (with_reducible refine Kd.C_drew ?_) | exact HR167_0.out)) x28_5 p168 q168
                                                          cases e168
                                                          replace p168 := eq_true p168
                                                          replace q168 := eq_true q168
                                                          go_wp2
                                                          repeat (go_quiet (fail); try go_wp2)
                                                          go_ret
                                                          exact ⟨by first | rfl | (simp [errW_none, errW_some] <;> rfl) | (simp [*, errW_none, errW_some] <;> rfl), by repeat (first | (with_reducible first | exact HB.out | apply below_alloc | apply pw_below_drewN | apply below_drew1) | exact HB.out)⟩
                                                        · rw [if_neg c46] at H
                                                          have c46b0 : decide (1 < (wrap64 ((wrap64 (rd (rd_L1 l4 x27_4) x28_5)) - (wrap64 (rd (rd_L1 t153 x27_4) x28_5))))) = false := decide_eq_false c46
                                                          clear c46
                                                          by_cases c49 : (wrap64 ((wrap64 (rd (rd_L1 l5 x27_4) x28_5)) - (wrap64 (rd (rd_L1 t154 x27_4) x28_5)))) < 0
                                                          · rw [if_pos c49] at H
                                                            have c49b0 : decide ((wrap64 ((wrap64 (rd (rd_L1 l5 x27_4) x28_5)) - (wrap64 (rd (rd_L1 t154 x27_4) x28_5)))) < 0) = true := decide_eq_true c49
                                                            clear c49
                                                            obtain rfl := Option.some.inj H
                                                            have p160 : 0 ≤ (x27_4 : Int) := of_decide_eq_true (by first | (with_reducible assumption) | assumption)
                                                            have q160 : x27_4 < (l4.length : Int) := of_decide_eq_true (by first | (with_reducible assumption) | assumption)
                                                            obtain ⟨ad160, A160_0, c160_0, e160, hx160_0, hl160_0, hi160_0⟩ := at_L1 HR4.out x27_4 p160 q160
                                                            cases e160
                                                            replace hx160_0 := (HB.out.cell (World.block_lt_of_cell? w _ hx160_0)).trans hx160_0
                                                            have HR160_0 := Aside0.mk hi160_0
                                                            have HC160_0 := Aside0.mk hl160_0
                                                            clear hi160_0 hl160_0
                                                            replace p160 := eq_true p160
                                                            replace q160 := eq_true q160
                                                            have p161 : 0 ≤ (x27_4 : Int) := of_decide_eq_true (by first | (with_reducible assumption) | assumption)
                                                            have q161 : x27_4 < (l4.length : Int) := of_decide_eq_true (by first | (with_reducible assumption) | assumption)
                                                            obtain ⟨ad161, A161_0, c161_0, e161, hx161_0, hl161_0, hi161_0⟩ := at_L1 HR4.out x27_4 p161 q161
                                                            obtain rfl : ad160 = ad161 := (by injection e161)
                                                            replace hx161_0 := (HB.out.cell (World.block_lt_of_cell? w _ hx161_0)).trans hx161_0
                                                            have HR161_0 := Aside0.mk hi161_0
                                                            have HC161_0 := Aside0.mk hl161_0
                                                            clear hi161_0 hl161_0
                                                            replace p161 := eq_true p161
                                                            replace q161 := eq_true q161
                                                            have ea_ := Option.some.inj (hx160_0.symm.trans hx161_0)
                                                            injection ea_ with ea_ en_ ec_
                                                            subst ea_
                                                            subst ec_
                                                            clear en_
                                                            have p162 : 0 ≤ (x28_5 : Int) := of_decide_eq_true (by first | (with_reducible assumption) | assumption)
                                                            have q162 : x28_5 < ((rd_L1 l4 x27_4).length : Int) := of_decide_eq_true (by first | (with_reducible assumption) | assumption)
                                                            obtain ⟨ad162, e162, hx162_0⟩ := Kd.at_int HR161_0.out x28_5 p162 q162
                                                            cases e162
                                                            replace hx162_0 := (HB.out.cell (World.block_lt_of_cell? w _ hx162_0)).trans hx162_0
                                                            replace p162 := eq_true p162
                                                            replace q162 := eq_true q162
                                                            obtain ⟨Ao50, co50, eo50⟩ := Kd.S_slice HO_24.out
                                                            subst eo50
                                                            have p163 : 0 ≤ (x27_4 : Int) := of_decide_eq_true (by first | (with_reducible assumption) | assumption)
                                                            have q163 : x27_4 < (t153.length : Int) := of_decide_eq_true (by first | (with_reducible assumption) | assumption)
                                                            obtain ⟨ad163, A163_0, c163_0, e163, hx163_0, hl163_0, hi163_0⟩ := at_L1 (Kd.S_reads' HO_24.out).2.2 x27_4 p163 q163
                                                            cases e163
                                                            obtain ⟨ce163, hce163, hMe163, hcc163⟩ := Kd.S_get HO_24.out [] x27_4 p163 (by first | exact q163 | exact of_decide_eq_true (by first | (with_reducible assumption) | assumption) | (have e_ := (Kd.S_reads' HO_24.out).1; omega))
                                                            obtain ⟨ve163_0, rfl, ge163_0⟩ := hMe163
                                                            have hv163_0 := hcc163 0 _ rfl
                                                            rw [Nat.add_zero, show ((Kd.slice 21 (Kd.int .i32))).sz = 1 from rfl, Nat.mul_one] at hv163_0
                                                            replace hv163_0 := Option.some.inj (hv163_0.symm.trans hx163_0)
                                                            rw [hv163_0] at ge163_0
                                                            have HL163_0 := Aside0.mk (show Kd.R (Kd.int .i32) 21 _ _ _ _ (rd_L1 t153 x27_4) from ge163_0)
                                                            clear hv163_0 ge163_0
                                                            clear hcc163 hce163
                                                            have HR163_0 := Aside0.mk hi163_0
                                                            have HC163_0 := Aside0.mk hl163_0
                                                            clear hi163_0 hl163_0
                                                            replace p163 := eq_true p163
                                                            replace q163 := eq_true q163
                                                            have p164 : 0 ≤ (x28_5 : Int) := of_decide_eq_true (by first | (with_reducible assumption) | assumption)
                                                            have q164 : x28_5 < ((rd_L1 t153 x27_4).length : Int) := of_decide_eq_true (by first | (with_reducible assumption) | assumption)
                                                            obtain ⟨ad164, e164, hx164_0⟩ := Kd.at_int (by repeat (first | (with_reducible exact HR163_0.out) | (with_reducible refine Kd.C_alloc ?_ _) | (with_reducible refine Kd.C_drewN ?_ _) | (with_reducible refine Kd.C_drew ?_) | exact HR163_0.out)) x28_5 p164 q164
                                                            cases e164
                                                            replace p164 := eq_true p164
                                                            replace q164 := eq_true q164
                                                            have p165 : 0 ≤ (x27_4 : Int) := of_decide_eq_true (by first | (with_reducible assumption) | assumption)
                                                            have q165 : x27_4 < (l5.length : Int) := of_decide_eq_true (by first | (with_reducible assumption) | assumption)
                                                            obtain ⟨ad165, A165_0, c165_0, e165, hx165_0, hl165_0, hi165_0⟩ := at_L1 HR5.out x27_4 p165 q165
                                                            cases e165
                                                            replace hx165_0 := (HB.out.cell (World.block_lt_of_cell? w _ hx165_0)).trans hx165_0
                                                            have HR165_0 := Aside0.mk hi165_0
                                                            have HC165_0 := Aside0.mk hl165_0
                                                            clear hi165_0 hl165_0
                                                            replace p165 := eq_true p165
                                                            replace q165 := eq_true q165
                                                            have p166 : 0 ≤ (x28_5 : Int) := of_decide_eq_true (by first | (with_reducible assumption) | assumption)
                                                            have q166 : x28_5 < ((rd_L1 l5 x27_4).length : Int) := of_decide_eq_true (by first | (with_reducible assumption) | assumption)
                                                            obtain ⟨ad166, e166, hx166_0⟩ := Kd.at_int HR165_0.out x28_5 p166 q166
                                                            cases e166
                                                            replace hx166_0 := (HB.out.cell (World.block_lt_of_cell? w _ hx166_0)).trans hx166_0
                                                            replace p166 := eq_true p166
                                                            replace q166 := eq_true q166
                                                            obtain ⟨Ao51, co51, eo51⟩ := Kd.S_slice HO_25.out
                                                            subst eo51
                                                            have p167 : 0 ≤ (x27_4 : Int) := of_decide_eq_true (by first | (with_reducible assumption) | assumption)
                                                            have q167 : x27_4 < (t154.length : Int) := of_decide_eq_true (by first | (with_reducible assumption) | assumption)
                                                            obtain ⟨ad167, A167_0, c167_0, e167, hx167_0, hl167_0, hi167_0⟩ := at_L1 (Kd.S_reads' HO_25.out).2.2 x27_4 p167 q167
                                                            cases e167
                                                            obtain ⟨ce167, hce167, hMe167, hcc167⟩ := Kd.S_get HO_25.out [] x27_4 p167 (by first | exact q167 | exact of_decide_eq_true (by first | (with_reducible assumption) | assumption) | (have e_ := (Kd.S_reads' HO_25.out).1; omega))
                                                            obtain ⟨ve167_0, rfl, ge167_0⟩ := hMe167
                                                            have hv167_0 := hcc167 0 _ rfl
                                                            rw [Nat.add_zero, show ((Kd.slice 21 (Kd.int .i32))).sz = 1 from rfl, Nat.mul_one] at hv167_0
                                                            replace hv167_0 := Option.some.inj (hv167_0.symm.trans hx167_0)
                                                            rw [hv167_0] at ge167_0
                                                            have HL167_0 := Aside0.mk (show Kd.R (Kd.int .i32) 21 _ _ _ _ (rd_L1 t154 x27_4) from ge167_0)
                                                            clear hv167_0 ge167_0
                                                            clear hcc167 hce167
                                                            have HR167_0 := Aside0.mk hi167_0
                                                            have HC167_0 := Aside0.mk hl167_0
                                                            clear hi167_0 hl167_0
                                                            replace p167 := eq_true p167
                                                            replace q167 := eq_true q167
                                                            have p168 : 0 ≤ (x28_5 : Int) := of_decide_eq_true (by first | (with_reducible assumption) | assumption)
                                                            have q168 : x28_5 < ((rd_L1 t154 x27_4).length : Int) := of_decide_eq_true (by first | (with_reducible assumption) | assumption)
                                                            obtain ⟨ad168, e168, hx168_0⟩ := Kd.at_int (by repeat (first | (with_reducible exact HR167_0.out) | (with_reducible refine Kd.C_alloc ?_ _) | (with_reducible refine Kd.C_drewN ?_ _) | (with_reducible refine Kd.C_drew ?_) | exact HR167_0.out)) x28_5 p168 q168
                                                            cases e168
                                                            replace p168 := eq_true p168
                                                            replace q168 := eq_true q168
                                                            go_wp2
                                                            repeat (go_quiet (fail); try go_wp2)
                                                            go_ret
                                                            exact ⟨by first | rfl | (simp [errW_none, errW_some] <;> rfl) | (simp [*, errW_none, errW_some] <;> rfl), by repeat (first | (with_reducible first | exact HB.out | apply below_alloc | apply pw_below_drewN | apply below_drew1) | exact HB.out)⟩
                                                          · rw [if_neg c49] at H
                                                            have c49b0 : decide ((wrap64 ((wrap64 (rd (rd_L1 l5 x27_4) x28_5)) - (wrap64 (rd (rd_L1 t154 x27_4) x28_5)))) < 0) = false := decide_eq_false c49
                                                            clear c49
                                                            by_cases c52 : (wrap64 ((wrap64 (rd (rd_L1 l5 x27_4) x28_5)) - (wrap64 (rd (rd_L1 t154 x27_4) x28_5)))) > 1
                                                            · rw [if_pos c52] at H
                                                              have c52b0 : decide (1 < (wrap64 ((wrap64 (rd (rd_L1 l5 x27_4) x28_5)) - (wrap64 (rd (rd_L1 t154 x27_4) x28_5))))) = true := decide_eq_true c52
                                                              clear c52
                                                              obtain rfl := Option.some.inj H
                                                              have p160 : 0 ≤ (x27_4 : Int) := of_decide_eq_true (by first | (with_reducible assumption) | assumption)
                                                              have q160 : x27_4 < (l4.length : Int) := of_decide_eq_true (by first | (with_reducible assumption) | assumption)
                                                              obtain ⟨ad160, A160_0, c160_0, e160, hx160_0, hl160_0, hi160_0⟩ := at_L1 HR4.out x27_4 p160 q160
                                                              cases e160
                                                              replace hx160_0 := (HB.out.cell (World.block_lt_of_cell? w _ hx160_0)).trans hx160_0
                                                              have HR160_0 := Aside0.mk hi160_0
                                                              have HC160_0 := Aside0.mk hl160_0
                                                              clear hi160_0 hl160_0
                                                              replace p160 := eq_true p160
                                                              replace q160 := eq_true q160
                                                              have p161 : 0 ≤ (x27_4 : Int) := of_decide_eq_true (by first | (with_reducible assumption) | assumption)
                                                              have q161 : x27_4 < (l4.length : Int) := of_decide_eq_true (by first | (with_reducible assumption) | assumption)
                                                              obtain ⟨ad161, A161_0, c161_0, e161, hx161_0, hl161_0, hi161_0⟩ := at_L1 HR4.out x27_4 p161 q161
                                                              obtain rfl : ad160 = ad161 := (by injection e161)
                                                              replace hx161_0 := (HB.out.cell (World.block_lt_of_cell? w _ hx161_0)).trans hx161_0
                                                              have HR161_0 := Aside0.mk hi161_0
                                                              have HC161_0 := Aside0.mk hl161_0
                                                              clear hi161_0 hl161_0
                                                              replace p161 := eq_true p161
                                                              replace q161 := eq_true q161
                                                              have ea_ := Option.some.inj (hx160_0.symm.trans hx161_0)
                                                              injection ea_ with ea_ en_ ec_
                                                              subst ea_
                                                              subst ec_
                                                              clear en_
                                                              have p162 : 0 ≤ (x28_5 : Int) := of_decide_eq_true (by first | (with_reducible assumption) | assumption)
                                                              have q162 : x28_5 < ((rd_L1 l4 x27_4).length : Int) := of_decide_eq_true (by first | (with_reducible assumption) | assumption)
                                                              obtain ⟨ad162, e162, hx162_0⟩ := Kd.at_int HR161_0.out x28_5 p162 q162
                                                              cases e162
                                                              replace hx162_0 := (HB.out.cell (World.block_lt_of_cell? w _ hx162_0)).trans hx162_0
                                                              replace p162 := eq_true p162
                                                              replace q162 := eq_true q162
                                                              obtain ⟨Ao53, co53, eo53⟩ := Kd.S_slice HO_24.out
                                                              subst eo53
                                                              have p163 : 0 ≤ (x27_4 : Int) := of_decide_eq_true (by first | (with_reducible assumption) | assumption)
                                                              have q163 : x27_4 < (t153.length : Int) := of_decide_eq_true (by first | (with_reducible assumption) | assumption)
                                                              obtain ⟨ad163, A163_0, c163_0, e163, hx163_0, hl163_0, hi163_0⟩ := at_L1 (Kd.S_reads' HO_24.out).2.2 x27_4 p163 q163
                                                              cases e163
                                                              obtain ⟨ce163, hce163, hMe163, hcc163⟩ := Kd.S_get HO_24.out [] x27_4 p163 (by first | exact q163 | exact of_decide_eq_true (by first | (with_reducible assumption) | assumption) | (have e_ := (Kd.S_reads' HO_24.out).1; omega))
                                                              obtain ⟨ve163_0, rfl, ge163_0⟩ := hMe163
                                                              have hv163_0 := hcc163 0 _ rfl
                                                              rw [Nat.add_zero, show ((Kd.slice 21 (Kd.int .i32))).sz = 1 from rfl, Nat.mul_one] at hv163_0
                                                              replace hv163_0 := Option.some.inj (hv163_0.symm.trans hx163_0)
                                                              rw [hv163_0] at ge163_0
                                                              have HL163_0 := Aside0.mk (show Kd.R (Kd.int .i32) 21 _ _ _ _ (rd_L1 t153 x27_4) from ge163_0)
                                                              clear hv163_0 ge163_0
                                                              clear hcc163 hce163
                                                              have HR163_0 := Aside0.mk hi163_0
                                                              have HC163_0 := Aside0.mk hl163_0
                                                              clear hi163_0 hl163_0
                                                              replace p163 := eq_true p163
                                                              replace q163 := eq_true q163
                                                              have p164 : 0 ≤ (x28_5 : Int) := of_decide_eq_true (by first | (with_reducible assumption) | assumption)
                                                              have q164 : x28_5 < ((rd_L1 t153 x27_4).length : Int) := of_decide_eq_true (by first | (with_reducible assumption) | assumption)
                                                              obtain ⟨ad164, e164, hx164_0⟩ := Kd.at_int (by repeat (first | (with_reducible exact HR163_0.out) | (with_reducible refine Kd.C_alloc ?_ _) | (with_reducible refine Kd.C_drewN ?_ _) | (with_reducible refine Kd.C_drew ?_) | exact HR163_0.out)) x28_5 p164 q164
                                                              cases e164
                                                              replace p164 := eq_true p164
                                                              replace q164 := eq_true q164
                                                              have p165 : 0 ≤ (x27_4 : Int) := of_decide_eq_true (by first | (with_reducible assumption) | assumption)
                                                              have q165 : x27_4 < (l5.length : Int) := of_decide_eq_true (by first | (with_reducible assumption) | assumption)
                                                              obtain ⟨ad165, A165_0, c165_0, e165, hx165_0, hl165_0, hi165_0⟩ := at_L1 HR5.out x27_4 p165 q165
                                                              cases e165
                                                              replace hx165_0 := (HB.out.cell (World.block_lt_of_cell? w _ hx165_0)).trans hx165_0
                                                              have HR165_0 := Aside0.mk hi165_0
                                                              have HC165_0 := Aside0.mk hl165_0
                                                              clear hi165_0 hl165_0
                                                              replace p165 := eq_true p165
                                                              replace q165 := eq_true q165
                                                              have p166 : 0 ≤ (x28_5 : Int) := of_decide_eq_true (by first | (with_reducible assumption) | assumption)
                                                              have q166 : x28_5 < ((rd_L1 l5 x27_4).length : Int) := of_decide_eq_true (by first | (with_reducible assumption) | assumption)
                                                              obtain ⟨ad166, e166, hx166_0⟩ := Kd.at_int HR165_0.out x28_5 p166 q166
                                                              cases e166
                                                              replace hx166_0 := (HB.out.cell (World.block_lt_of_cell? w _ hx166_0)).trans hx166_0
                                                              replace p166 := eq_true p166
                                                              replace q166 := eq_true q166
                                                              obtain ⟨Ao54, co54, eo54⟩ := Kd.S_slice HO_25.out
                                                              subst eo54
                                                              have p167 : 0 ≤ (x27_4 : Int) := of_decide_eq_true (by first | (with_reducible assumption) | assumption)
                                                              have q167 : x27_4 < (t154.length : Int) := of_decide_eq_true (by first | (with_reducible assumption) | assumption)
                                                              obtain ⟨ad167, A167_0, c167_0, e167, hx167_0, hl167_0, hi167_0⟩ := at_L1 (Kd.S_reads' HO_25.out).2.2 x27_4 p167 q167
                                                              cases e167
                                                              obtain ⟨ce167, hce167, hMe167, hcc167⟩ := Kd.S_get HO_25.out [] x27_4 p167 (by first | exact q167 | exact of_decide_eq_true (by first | (with_reducible assumption) | assumption) | (have e_ := (Kd.S_reads' HO_25.out).1; omega))
                                                              obtain ⟨ve167_0, rfl, ge167_0⟩ := hMe167
                                                              have hv167_0 := hcc167 0 _ rfl
                                                              rw [Nat.add_zero, show ((Kd.slice 21 (Kd.int .i32))).sz = 1 from rfl, Nat.mul_one] at hv167_0
                                                              replace hv167_0 := Option.some.inj (hv167_0.symm.trans hx167_0)
                                                              rw [hv167_0] at ge167_0
                                                              have HL167_0 := Aside0.mk (show Kd.R (Kd.int .i32) 21 _ _ _ _ (rd_L1 t154 x27_4) from ge167_0)
                                                              clear hv167_0 ge167_0
                                                              clear hcc167 hce167
                                                              have HR167_0 := Aside0.mk hi167_0
                                                              have HC167_0 := Aside0.mk hl167_0
                                                              clear hi167_0 hl167_0
                                                              replace p167 := eq_true p167
                                                              replace q167 := eq_true q167
                                                              have p168 : 0 ≤ (x28_5 : Int) := of_decide_eq_true (by first | (with_reducible assumption) | assumption)
                                                              have q168 : x28_5 < ((rd_L1 t154 x27_4).length : Int) := of_decide_eq_true (by first | (with_reducible assumption) | assumption)
                                                              obtain ⟨ad168, e168, hx168_0⟩ := Kd.at_int (by repeat (first | (with_reducible exact HR167_0.out) | (with_reducible refine Kd.C_alloc ?_ _) | (with_reducible refine Kd.C_drewN ?_ _) | (with_reducible refine Kd.C_drew ?_) | exact HR167_0.out)) x28_5 p168 q168
                                                              cases e168
                                                              replace p168 := eq_true p168
                                                              replace q168 := eq_true q168
                                                              go_wp2
                                                              repeat (go_quiet (fail); try go_wp2)
                                                              go_ret
                                                              exact ⟨by first | rfl | (simp [errW_none, errW_some] <;> rfl) | (simp [*, errW_none, errW_some] <;> rfl), by repeat (first | (with_reducible first | exact HB.out | apply below_alloc | apply pw_below_drewN | apply below_drew1) | exact HB.out)⟩
                                                            · rw [if_neg c52] at H
                                                              have c52b0 : decide (1 < (wrap64 ((wrap64 (rd (rd_L1 l5 x27_4) x28_5)) - (wrap64 (rd (rd_L1 t154 x27_4) x28_5))))) = false := decide_eq_false c52
                                                              clear c52
                                                              have H' := Aside0.mk H
                                                              clear H
                                                              have p160 : 0 ≤ (x27_4 : Int) := of_decide_eq_true (by first | (with_reducible assumption) | assumption)
                                                              have q160 : x27_4 < (l4.length : Int) := of_decide_eq_true (by first | (with_reducible assumption) | assumption)
                                                              obtain ⟨ad160, A160_0, c160_0, e160, hx160_0, hl160_0, hi160_0⟩ := at_L1 HR4.out x27_4 p160 q160
                                                              cases e160
                                                              replace hx160_0 := (HB.out.cell (World.block_lt_of_cell? w _ hx160_0)).trans hx160_0
                                                              have HR160_0 := Aside0.mk hi160_0
                                                              have HC160_0 := Aside0.mk hl160_0
                                                              clear hi160_0 hl160_0
                                                              replace p160 := eq_true p160
                                                              replace q160 := eq_true q160
                                                              have p161 : 0 ≤ (x27_4 : Int) := of_decide_eq_true (by first | (with_reducible assumption) | assumption)
                                                              have q161 : x27_4 < (l4.length : Int) := of_decide_eq_true (by first | (with_reducible assumption) | assumption)
                                                              obtain ⟨ad161, A161_0, c161_0, e161, hx161_0, hl161_0, hi161_0⟩ := at_L1 HR4.out x27_4 p161 q161
                                                              obtain rfl : ad160 = ad161 := (by injection e161)
                                                              replace hx161_0 := (HB.out.cell (World.block_lt_of_cell? w _ hx161_0)).trans hx161_0
                                                              have HR161_0 := Aside0.mk hi161_0
                                                              have HC161_0 := Aside0.mk hl161_0
                                                              clear hi161_0 hl161_0
                                                              replace p161 := eq_true p161
                                                              replace q161 := eq_true q161
                                                              have ea_ := Option.some.inj (hx160_0.symm.trans hx161_0)
                                                              injection ea_ with ea_ en_ ec_
                                                              subst ea_
                                                              subst ec_
                                                              clear en_
                                                              have p162 : 0 ≤ (x28_5 : Int) := of_decide_eq_true (by first | (with_reducible assumption) | assumption)
                                                              have q162 : x28_5 < ((rd_L1 l4 x27_4).length : Int) := of_decide_eq_true (by first | (with_reducible assumption) | assumption)
                                                              obtain ⟨ad162, e162, hx162_0⟩ := Kd.at_int HR161_0.out x28_5 p162 q162
                                                              cases e162
                                                              replace hx162_0 := (HB.out.cell (World.block_lt_of_cell? w _ hx162_0)).trans hx162_0
                                                              replace p162 := eq_true p162
                                                              replace q162 := eq_true q162
                                                              obtain ⟨Ao55, co55, eo55⟩ := Kd.S_slice HO_24.out
                                                              subst eo55
                                                              have p163 : 0 ≤ (x27_4 : Int) := of_decide_eq_true (by first | (with_reducible assumption) | assumption)
                                                              have q163 : x27_4 < (t153.length : Int) := of_decide_eq_true (by first | (with_reducible assumption) | assumption)
                                                              obtain ⟨ad163, A163_0, c163_0, e163, hx163_0, hl163_0, hi163_0⟩ := at_L1 (Kd.S_reads' HO_24.out).2.2 x27_4 p163 q163
                                                              cases e163
                                                              obtain ⟨ce163, hce163, hMe163, hcc163⟩ := Kd.S_get HO_24.out [] x27_4 p163 (by first | exact q163 | exact of_decide_eq_true (by first | (with_reducible assumption) | assumption) | (have e_ := (Kd.S_reads' HO_24.out).1; omega))
                                                              obtain ⟨ve163_0, rfl, ge163_0⟩ := hMe163
                                                              have hv163_0 := hcc163 0 _ rfl
                                                              rw [Nat.add_zero, show ((Kd.slice 21 (Kd.int .i32))).sz = 1 from rfl, Nat.mul_one] at hv163_0
                                                              replace hv163_0 := Option.some.inj (hv163_0.symm.trans hx163_0)
                                                              rw [hv163_0] at ge163_0
                                                              have HL163_0 := Aside0.mk (show Kd.R (Kd.int .i32) 21 _ _ _ _ (rd_L1 t153 x27_4) from ge163_0)
                                                              clear hv163_0 ge163_0
                                                              clear hcc163 hce163
                                                              have HR163_0 := Aside0.mk hi163_0
                                                              have HC163_0 := Aside0.mk hl163_0
                                                              clear hi163_0 hl163_0
                                                              replace p163 := eq_true p163
                                                              replace q163 := eq_true q163
                                                              have p164 : 0 ≤ (x28_5 : Int) := of_decide_eq_true (by first | (with_reducible assumption) | assumption)
                                                              have q164 : x28_5 < ((rd_L1 t153 x27_4).length : Int) := of_decide_eq_true (by first | (with_reducible assumption) | assumption)
                                                              obtain ⟨ad164, e164, hx164_0⟩ := Kd.at_int (by repeat (first | (with_reducible exact HR163_0.out) | (with_reducible refine Kd.C_alloc ?_ _) | (with_reducible refine Kd.C_drewN ?_ _) | (with_reducible refine Kd.C_drew ?_) | exact HR163_0.out)) x28_5 p164 q164
                                                              cases e164
                                                              replace p164 := eq_true p164
                                                              replace q164 := eq_true q164
                                                              have p165 : 0 ≤ (x27_4 : Int) := of_decide_eq_true (by first | (with_reducible assumption) | assumption)
                                                              have q165 : x27_4 < (l5.length : Int) := of_decide_eq_true (by first | (with_reducible assumption) | assumption)
                                                              obtain ⟨ad165, A165_0, c165_0, e165, hx165_0, hl165_0, hi165_0⟩ := at_L1 HR5.out x27_4 p165 q165
                                                              cases e165
                                                              replace hx165_0 := (HB.out.cell (World.block_lt_of_cell? w _ hx165_0)).trans hx165_0
                                                              have HR165_0 := Aside0.mk hi165_0
                                                              have HC165_0 := Aside0.mk hl165_0
                                                              clear hi165_0 hl165_0
                                                              replace p165 := eq_true p165
                                                              replace q165 := eq_true q165
                                                              have p166 : 0 ≤ (x28_5 : Int) := of_decide_eq_true (by first | (with_reducible assumption) | assumption)
                                                              have q166 : x28_5 < ((rd_L1 l5 x27_4).length : Int) := of_decide_eq_true (by first | (with_reducible assumption) | assumption)
                                                              obtain ⟨ad166, e166, hx166_0⟩ := Kd.at_int HR165_0.out x28_5 p166 q166
                                                              cases e166
                                                              replace hx166_0 := (HB.out.cell (World.block_lt_of_cell? w _ hx166_0)).trans hx166_0
                                                              replace p166 := eq_true p166
                                                              replace q166 := eq_true q166
                                                              obtain ⟨Ao56, co56, eo56⟩ := Kd.S_slice HO_25.out
                                                              subst eo56
                                                              have p167 : 0 ≤ (x27_4 : Int) := of_decide_eq_true (by first | (with_reducible assumption) | assumption)
                                                              have q167 : x27_4 < (t154.length : Int) := of_decide_eq_true (by first | (with_reducible assumption) | assumption)
                                                              obtain ⟨ad167, A167_0, c167_0, e167, hx167_0, hl167_0, hi167_0⟩ := at_L1 (Kd.S_reads' HO_25.out).2.2 x27_4 p167 q167
                                                              cases e167
                                                              obtain ⟨ce167, hce167, hMe167, hcc167⟩ := Kd.S_get HO_25.out [] x27_4 p167 (by first | exact q167 | exact of_decide_eq_true (by first | (with_reducible assumption) | assumption) | (have e_ := (Kd.S_reads' HO_25.out).1; omega))
                                                              obtain ⟨ve167_0, rfl, ge167_0⟩ := hMe167
                                                              have hv167_0 := hcc167 0 _ rfl
                                                              rw [Nat.add_zero, show ((Kd.slice 21 (Kd.int .i32))).sz = 1 from rfl, Nat.mul_one] at hv167_0
                                                              replace hv167_0 := Option.some.inj (hv167_0.symm.trans hx167_0)
                                                              rw [hv167_0] at ge167_0
                                                              have HL167_0 := Aside0.mk (show Kd.R (Kd.int .i32) 21 _ _ _ _ (rd_L1 t154 x27_4) from ge167_0)
                                                              clear hv167_0 ge167_0
                                                              clear hcc167 hce167
                                                              have HR167_0 := Aside0.mk hi167_0
                                                              have HC167_0 := Aside0.mk hl167_0
                                                              clear hi167_0 hl167_0
                                                              replace p167 := eq_true p167
                                                              replace q167 := eq_true q167
                                                              have p168 : 0 ≤ (x28_5 : Int) := of_decide_eq_true (by first | (with_reducible assumption) | assumption)
                                                              have q168 : x28_5 < ((rd_L1 t154 x27_4).length : Int) := of_decide_eq_true (by first | (with_reducible assumption) | assumption)
                                                              obtain ⟨ad168, e168, hx168_0⟩ := Kd.at_int (by repeat (first | (with_reducible exact HR167_0.out) | (with_reducible refine Kd.C_alloc ?_ _) | (with_reducible refine Kd.C_drewN ?_ _) | (with_reducible refine Kd.C_drew ?_) | exact HR167_0.out)) x28_5 p168 q168
                                                              cases e168
                                                              replace p168 := eq_true p168
                                                              replace q168 := eq_true q168
                                                              go_wp2
                                                              repeat (go_quiet (fail); try go_wp2)
                                                              go_roundg k5
                                                              case measure => have := HJ8.out; have := HJ12.out; have := HJ17.out; have := HK4.out; have := HK5.out; omega
                                                              case rel => exact ⟨(wrap64 (x28_5 + 1)), (by first | rfl | (simp; done) | (simp [*]; done)), H', ⟨by have := HJ8.out; have := HJ12.out; have := HJ17.out; have := HK4.out; have := HK5.out; omega⟩, ⟨by (with_reducible repeat (first | apply Kd.S_alloc | apply Kd.S_drewN | apply Kd.S_drew)); exact HO_24.out⟩, ⟨by (with_reducible repeat (first | apply Kd.S_alloc | apply Kd.S_drewN | apply Kd.S_drew)); exact HO_25.out⟩, ⟨by repeat (first | (with_reducible first | exact HB.out | apply below_alloc | apply pw_below_drewN | apply below_drew1) | exact HB.out)⟩⟩
                                                    · rw [if_neg c42] at H
                                                      exact absurd H (by simp)
                                                  · rw [if_neg c41] at H
                                                    exact absurd H (by simp)
                                                · rw [if_neg c40] at H
                                                  exact absurd H (by simp)
                                              · rw [if_neg c39] at H
                                                exact absurd H (by simp)
                                            · rw [if_neg c38] at H
                                              exact absurd H (by simp)
                                          · rw [if_neg c37] at H
                                            exact absurd H (by simp)
                                        · rw [if_neg c36] at H
                                          exact absurd H (by simp)
                                      · rw [if_neg c35] at H
                                        have c35b0 : decide (x28_5 < ((rd_L1 l4 x27_4).length : Int)) = false := decide_eq_false c35
                                        clear c35
                                        have H' := Aside0.mk H
                                        clear H
                                        have p160 : 0 ≤ (x27_4 : Int) := of_decide_eq_true (by first | (with_reducible assumption) | assumption)
                                        have q160 : x27_4 < (l4.length : Int) := of_decide_eq_true (by first | (with_reducible assumption) | assumption)
                                        obtain ⟨ad160, A160_0, c160_0, e160, hx160_0, hl160_0, hi160_0⟩ := at_L1 HR4.out x27_4 p160 q160
                                        cases e160
                                        replace hx160_0 := (HB.out.cell (World.block_lt_of_cell? w _ hx160_0)).trans hx160_0
                                        have HR160_0 := Aside0.mk hi160_0
                                        have HC160_0 := Aside0.mk hl160_0
                                        clear hi160_0 hl160_0
                                        replace p160 := eq_true p160
                                        replace q160 := eq_true q160
                                        go_wp2
                                        repeat (go_quiet (fail); try go_wp2)
                                        go_roundg k5
                                        case measure => have := HJ8.out; have := HJ12.out; have := HJ17.out; have := HK4.out; have := HK5.out; omega
                                        case rel => exact ⟨(wrap64 (x27_4 + 1)), (by first | rfl | (simp; done) | (simp [*]; done)), H', ⟨by have := HJ8.out; have := HJ12.out; have := HJ17.out; have := HK4.out; have := HK5.out; omega⟩, ⟨by (with_reducible repeat (first | apply Kd.S_alloc | apply Kd.S_drewN | apply Kd.S_drew)); exact HO_24.out⟩, ⟨by (with_reducible repeat (first | apply Kd.S_alloc | apply Kd.S_drewN | apply Kd.S_drew)); exact HO_25.out⟩, ⟨by repeat (first | (with_reducible first | exact HB.out | apply below_alloc | apply pw_below_drewN | apply below_drew1) | exact HB.out)⟩⟩
                                    · rw [if_neg c34] at H
                                      exact absurd H (by simp)
                                  · rw [if_neg c33] at H
                                    exact absurd H (by simp)
                            · rw [if_neg c32] at H
                              have c32b0 : decide (x27_4 < (l4.length : Int)) = false := decide_eq_false c32
                              clear c32
                              obtain rfl := Option.some.inj H
                              go_wp2
                              repeat (go_quiet (fail); try go_wp2)
                              go_ret
                              exact ⟨by first | rfl | (simp [errW_none, errW_some] <;> rfl) | (simp [*, errW_none, errW_some] <;> rfl), by repeat (first | (with_reducible first | exact HB.out | apply below_alloc | apply pw_below_drewN | apply below_drew1) | exact HB.out)⟩
                      · rw [if_neg c27] at H
                        have c27b0 : (t155 == 0) = false := beq_eq_false_iff_ne.mpr c27
                        have c27b1 : (t155 != 0) = true := bne_iff_ne.mpr c27
                        obtain rfl := Option.some.inj H
                        go_wp2_with (first | (go_at_call 46; (with_reducible refine (quant_Middle.calls _ _ l4 _ _ l5 t146 t147 t148 _ ?side1 ?side2 ?side3 ?side4 A24.out).mono ?_); (case side1 => repeat (first | exact (Kd.C_below HR4.out HB.out) | (with_reducible refine Kd.C_alloc ?_ _) | (with_reducible refine Kd.C_drewN ?_ _) | (with_reducible refine Kd.C_drew ?_))); (case side2 => exact HC4.out); (case side3 => repeat (first | exact (Kd.C_below HR5.out HB.out) | (with_reducible refine Kd.C_alloc ?_ _) | (with_reducible refine Kd.C_drewN ?_ _) | (with_reducible refine Kd.C_drew ?_))); (case side4 => exact HC5.out); rintro e w57 ⟨v149, v151, rfl, ho0, ho1, hb⟩; have n0_ := Aside0.mk (Kd.S_lower ho0 (below_size (by repeat (first | (with_reducible first | exact HB.out | apply below_alloc | apply pw_below_drewN | apply below_drew1) | exact HB.out)))); have n1_ := Aside0.mk (Kd.S_lower ho1 (below_size (by repeat (first | (with_reducible first | exact HB.out | apply below_alloc | apply pw_below_drewN | apply below_drew1) | exact HB.out)))); have n2_ := Aside0.mk (below_step (by repeat (first | (with_reducible first | exact HB.out | apply below_alloc | apply pw_below_drewN | apply below_drew1) | exact HB.out)) hb); clear HB; have HO150 := n0_; have HO152 := n1_; have HB := n2_; clear n0_ n1_ n2_; (try clear hb); (try clear hb2); (try clear hk); (try clear hi); (try clear ho0); (try clear ho1); obtain ⟨Ao58, co58, eo58⟩ := Kd.S_slice HO150.out; subst eo58; obtain ⟨Ao59, co59, eo59⟩ := Kd.S_slice HO152.out; subst eo59) | (go_at_call 47; (with_reducible refine (quant_Sides.calls _ _ t146 _ _ t147 t153 t154 t155 _ ?side1 ?side2 ?side3 ?side4 A26.out).mono ?_); (case side1 => repeat (first | exact (Kd.S_reads' HO150.out).2.2 | (with_reducible refine Kd.C_alloc ?_ _) | (with_reducible refine Kd.C_drewN ?_ _) | (with_reducible refine Kd.C_drew ?_))); (case side2 => exact (Kd.S_reads' HO150.out).2.1); (case side3 => repeat (first | exact (Kd.S_reads' HO152.out).2.2 | (with_reducible refine Kd.C_alloc ?_ _) | (with_reducible refine Kd.C_drewN ?_ _) | (with_reducible refine Kd.C_drew ?_))); (case side4 => exact (Kd.S_reads' HO152.out).2.1); rintro e w60 ⟨v156, v158, rfl, ho0, ho1, hb⟩; have n0_ := Aside0.mk (Kd.S_mono (Kd.S_told (Kd.S_told (Kd.S_old (by (with_reducible repeat (first | apply Kd.S_alloc | apply Kd.S_drewN | apply Kd.S_drew)); exact HO150.out) hb) (Kd.S_base ho0)) (Kd.S_base ho1)) (fun _ h_ => h_.1)); have n1_ := Aside0.mk (Kd.S_mono (Kd.S_told (Kd.S_told (Kd.S_old (by (with_reducible repeat (first | apply Kd.S_alloc | apply Kd.S_drewN | apply Kd.S_drew)); exact HO152.out) hb) (Kd.S_base ho0)) (Kd.S_base ho1)) (fun _ h_ => h_.1)); have n2_ := Aside0.mk (Kd.S_lower (Kd.S_new' (Kd.S_new' ho0 (Kd.S_lt (by (with_reducible repeat (first | apply Kd.S_alloc | apply Kd.S_drewN | apply Kd.S_drew)); exact HO150.out))) (Kd.S_lt (by (with_reducible repeat (first | apply Kd.S_alloc | apply Kd.S_drewN | apply Kd.S_drew)); exact HO152.out))) (below_size (by repeat (first | (with_reducible first | exact HB.out | apply below_alloc | apply pw_below_drewN | apply below_drew1) | exact HB.out)))); have n3_ := Aside0.mk (Kd.S_lower (Kd.S_new' (Kd.S_new' ho1 (Kd.S_lt (by (with_reducible repeat (first | apply Kd.S_alloc | apply Kd.S_drewN | apply Kd.S_drew)); exact HO150.out))) (Kd.S_lt (by (with_reducible repeat (first | apply Kd.S_alloc | apply Kd.S_drewN | apply Kd.S_drew)); exact HO152.out))) (below_size (by repeat (first | (with_reducible first | exact HB.out | apply below_alloc | apply pw_below_drewN | apply below_drew1) | exact HB.out)))); have n4_ := Aside0.mk (below_step (by repeat (first | (with_reducible first | exact HB.out | apply below_alloc | apply pw_below_drewN | apply below_drew1) | exact HB.out)) hb); clear HO150; clear HO152; clear HB; have HO150 := n0_; have HO152 := n1_; have HO157 := n2_; have HO159 := n3_; have HB := n4_; clear n0_ n1_ n2_ n3_ n4_; (try clear hb); (try clear hb2); (try clear hk); (try clear hi); (try clear ho0); (try clear ho1)))
                        repeat (go_quiet (first | (go_at_call 46; (with_reducible refine (quant_Middle.calls _ _ l4 _ _ l5 t146 t147 t148 _ ?side1 ?side2 ?side3 ?side4 A24.out).mono ?_); (case side1 => repeat (first | exact (Kd.C_below HR4.out HB.out) | (with_reducible refine Kd.C_alloc ?_ _) | (with_reducible refine Kd.C_drewN ?_ _) | (with_reducible refine Kd.C_drew ?_))); (case side2 => exact HC4.out); (case side3 => repeat (first | exact (Kd.C_below HR5.out HB.out) | (with_reducible refine Kd.C_alloc ?_ _) | (with_reducible refine Kd.C_drewN ?_ _) | (with_reducible refine Kd.C_drew ?_))); (case side4 => exact HC5.out); rintro e w57 ⟨v149, v151, rfl, ho0, ho1, hb⟩; have n0_ := Aside0.mk (Kd.S_lower ho0 (below_size (by repeat (first | (with_reducible first | exact HB.out | apply below_alloc | apply pw_below_drewN | apply below_drew1) | exact HB.out)))); have n1_ := Aside0.mk (Kd.S_lower ho1 (below_size (by repeat (first | (with_reducible first | exact HB.out | apply below_alloc | apply pw_below_drewN | apply below_drew1) | exact HB.out)))); have n2_ := Aside0.mk (below_step (by repeat (first | (with_reducible first | exact HB.out | apply below_alloc | apply pw_below_drewN | apply below_drew1) | exact HB.out)) hb); clear HB; have HO150 := n0_; have HO152 := n1_; have HB := n2_; clear n0_ n1_ n2_; (try clear hb); (try clear hb2); (try clear hk); (try clear hi); (try clear ho0); (try clear ho1); obtain ⟨Ao58, co58, eo58⟩ := Kd.S_slice HO150.out; subst eo58; obtain ⟨Ao59, co59, eo59⟩ := Kd.S_slice HO152.out; subst eo59) | (go_at_call 47; (with_reducible refine (quant_Sides.calls _ _ t146 _ _ t147 t153 t154 t155 _ ?side1 ?side2 ?side3 ?side4 A26.out).mono ?_); (case side1 => repeat (first | exact (Kd.S_reads' HO150.out).2.2 | (with_reducible refine Kd.C_alloc ?_ _) | (with_reducible refine Kd.C_drewN ?_ _) | (with_reducible refine Kd.C_drew ?_))); (case side2 => exact (Kd.S_reads' HO150.out).2.1); (case side3 => repeat (first | exact (Kd.S_reads' HO152.out).2.2 | (with_reducible refine Kd.C_alloc ?_ _) | (with_reducible refine Kd.C_drewN ?_ _) | (with_reducible refine Kd.C_drew ?_))); (case side4 => exact (Kd.S_reads' HO152.out).2.1); rintro e w60 ⟨v156, v158, rfl, ho0, ho1, hb⟩; have n0_ := Aside0.mk (Kd.S_mono (Kd.S_told (Kd.S_told (Kd.S_old (by (with_reducible repeat (first | apply Kd.S_alloc | apply Kd.S_drewN | apply Kd.S_drew)); exact HO150.out) hb) (Kd.S_base ho0)) (Kd.S_base ho1)) (fun _ h_ => h_.1)); have n1_ := Aside0.mk (Kd.S_mono (Kd.S_told (Kd.S_told (Kd.S_old (by (with_reducible repeat (first | apply Kd.S_alloc | apply Kd.S_drewN | apply Kd.S_drew)); exact HO152.out) hb) (Kd.S_base ho0)) (Kd.S_base ho1)) (fun _ h_ => h_.1)); have n2_ := Aside0.mk (Kd.S_lower (Kd.S_new' (Kd.S_new' ho0 (Kd.S_lt (by (with_reducible repeat (first | apply Kd.S_alloc | apply Kd.S_drewN | apply Kd.S_drew)); exact HO150.out))) (Kd.S_lt (by (with_reducible repeat (first | apply Kd.S_alloc | apply Kd.S_drewN | apply Kd.S_drew)); exact HO152.out))) (below_size (by repeat (first | (with_reducible first | exact HB.out | apply below_alloc | apply pw_below_drewN | apply below_drew1) | exact HB.out)))); have n3_ := Aside0.mk (Kd.S_lower (Kd.S_new' (Kd.S_new' ho1 (Kd.S_lt (by (with_reducible repeat (first | apply Kd.S_alloc | apply Kd.S_drewN | apply Kd.S_drew)); exact HO150.out))) (Kd.S_lt (by (with_reducible repeat (first | apply Kd.S_alloc | apply Kd.S_drewN | apply Kd.S_drew)); exact HO152.out))) (below_size (by repeat (first | (with_reducible first | exact HB.out | apply below_alloc | apply pw_below_drewN | apply below_drew1) | exact HB.out)))); have n4_ := Aside0.mk (below_step (by repeat (first | (with_reducible first | exact HB.out | apply below_alloc | apply pw_below_drewN | apply below_drew1) | exact HB.out)) hb); clear HO150; clear HO152; clear HB; have HO150 := n0_; have HO152 := n1_; have HO157 := n2_; have HO159 := n3_; have HB := n4_; clear n0_ n1_ n2_ n3_ n4_; (try clear hb); (try clear hb2); (try clear hk); (try clear hi); (try clear ho0); (try clear ho1))); try go_wp2_with (first | (go_at_call 46; (with_reducible refine (quant_Middle.calls _ _ l4 _ _ l5 t146 t147 t148 _ ?side1 ?side2 ?side3 ?side4 A24.out).mono ?_); (case side1 => repeat (first | exact (Kd.C_below HR4.out HB.out) | (with_reducible refine Kd.C_alloc ?_ _) | (with_reducible refine Kd.C_drewN ?_ _) | (with_reducible refine Kd.C_drew ?_))); (case side2 => exact HC4.out); (case side3 => repeat (first | exact (Kd.C_below HR5.out HB.out) | (with_reducible refine Kd.C_alloc ?_ _) | (with_reducible refine Kd.C_drewN ?_ _) | (with_reducible refine Kd.C_drew ?_))); (case side4 => exact HC5.out); rintro e w57 ⟨v149, v151, rfl, ho0, ho1, hb⟩; have n0_ := Aside0.mk (Kd.S_lower ho0 (below_size (by repeat (first | (with_reducible first | exact HB.out | apply below_alloc | apply pw_below_drewN | apply below_drew1) | exact HB.out)))); have n1_ := Aside0.mk (Kd.S_lower ho1 (below_size (by repeat (first | (with_reducible first | exact HB.out | apply below_alloc | apply pw_below_drewN | apply below_drew1) | exact HB.out)))); have n2_ := Aside0.mk (below_step (by repeat (first | (with_reducible first | exact HB.out | apply below_alloc | apply pw_below_drewN | apply below_drew1) | exact HB.out)) hb); clear HB; have HO150 := n0_; have HO152 := n1_; have HB := n2_; clear n0_ n1_ n2_; (try clear hb); (try clear hb2); (try clear hk); (try clear hi); (try clear ho0); (try clear ho1); obtain ⟨Ao58, co58, eo58⟩ := Kd.S_slice HO150.out; subst eo58; obtain ⟨Ao59, co59, eo59⟩ := Kd.S_slice HO152.out; subst eo59) | (go_at_call 47; (with_reducible refine (quant_Sides.calls _ _ t146 _ _ t147 t153 t154 t155 _ ?side1 ?side2 ?side3 ?side4 A26.out).mono ?_); (case side1 => repeat (first | exact (Kd.S_reads' HO150.out).2.2 | (with_reducible refine Kd.C_alloc ?_ _) | (with_reducible refine Kd.C_drewN ?_ _) | (with_reducible refine Kd.C_drew ?_))); (case side2 => exact (Kd.S_reads' HO150.out).2.1); (case side3 => repeat (first | exact (Kd.S_reads' HO152.out).2.2 | (with_reducible refine Kd.C_alloc ?_ _) | (with_reducible refine Kd.C_drewN ?_ _) | (with_reducible refine Kd.C_drew ?_))); (case side4 => exact (Kd.S_reads' HO152.out).2.1); rintro e w60 ⟨v156, v158, rfl, ho0, ho1, hb⟩; have n0_ := Aside0.mk (Kd.S_mono (Kd.S_told (Kd.S_told (Kd.S_old (by (with_reducible repeat (first | apply Kd.S_alloc | apply Kd.S_drewN | apply Kd.S_drew)); exact HO150.out) hb) (Kd.S_base ho0)) (Kd.S_base ho1)) (fun _ h_ => h_.1)); have n1_ := Aside0.mk (Kd.S_mono (Kd.S_told (Kd.S_told (Kd.S_old (by (with_reducible repeat (first | apply Kd.S_alloc | apply Kd.S_drewN | apply Kd.S_drew)); exact HO152.out) hb) (Kd.S_base ho0)) (Kd.S_base ho1)) (fun _ h_ => h_.1)); have n2_ := Aside0.mk (Kd.S_lower (Kd.S_new' (Kd.S_new' ho0 (Kd.S_lt (by (with_reducible repeat (first | apply Kd.S_alloc | apply Kd.S_drewN | apply Kd.S_drew)); exact HO150.out))) (Kd.S_lt (by (with_reducible repeat (first | apply Kd.S_alloc | apply Kd.S_drewN | apply Kd.S_drew)); exact HO152.out))) (below_size (by repeat (first | (with_reducible first | exact HB.out | apply below_alloc | apply pw_below_drewN | apply below_drew1) | exact HB.out)))); have n3_ := Aside0.mk (Kd.S_lower (Kd.S_new' (Kd.S_new' ho1 (Kd.S_lt (by (with_reducible repeat (first | apply Kd.S_alloc | apply Kd.S_drewN | apply Kd.S_drew)); exact HO150.out))) (Kd.S_lt (by (with_reducible repeat (first | apply Kd.S_alloc | apply Kd.S_drewN | apply Kd.S_drew)); exact HO152.out))) (below_size (by repeat (first | (with_reducible first | exact HB.out | apply below_alloc | apply pw_below_drewN | apply below_drew1) | exact HB.out)))); have n4_ := Aside0.mk (below_step (by repeat (first | (with_reducible first | exact HB.out | apply below_alloc | apply pw_below_drewN | apply below_drew1) | exact HB.out)) hb); clear HO150; clear HO152; clear HB; have HO150 := n0_; have HO152 := n1_; have HO157 := n2_; have HO159 := n3_; have HB := n4_; clear n0_ n1_ n2_ n3_ n4_; (try clear hb); (try clear hb2); (try clear hk); (try clear hi); (try clear ho0); (try clear ho1))))
                        go_ret
                        exact ⟨by first | rfl | (simp [errW_none, errW_some] <;> rfl) | (simp [*, errW_none, errW_some] <;> rfl), by repeat (first | (with_reducible first | exact HB.out | apply below_alloc | apply pw_below_drewN | apply below_drew1) | exact HB.out)⟩
                    · rw [if_neg c25] at H
                      have c25b0 : (t148 == 0) = false := beq_eq_false_iff_ne.mpr c25
                      have c25b1 : (t148 != 0) = true := bne_iff_ne.mpr c25
                      obtain rfl := Option.some.inj H
                      go_wp2_with (first | (go_at_call 46; (with_reducible refine (quant_Middle.calls _ _ l4 _ _ l5 t146 t147 t148 _ ?side1 ?side2 ?side3 ?side4 A24.out).mono ?_); (case side1 => repeat (first | exact (Kd.C_below HR4.out HB.out) | (with_reducible refine Kd.C_alloc ?_ _) | (with_reducible refine Kd.C_drewN ?_ _) | (with_reducible refine Kd.C_drew ?_))); (case side2 => exact HC4.out); (case side3 => repeat (first | exact (Kd.C_below HR5.out HB.out) | (with_reducible refine Kd.C_alloc ?_ _) | (with_reducible refine Kd.C_drewN ?_ _) | (with_reducible refine Kd.C_drew ?_))); (case side4 => exact HC5.out); rintro e w61 ⟨v149, v151, rfl, ho0, ho1, hb⟩; have n0_ := Aside0.mk (Kd.S_lower ho0 (below_size (by repeat (first | (with_reducible first | exact HB.out | apply below_alloc | apply pw_below_drewN | apply below_drew1) | exact HB.out)))); have n1_ := Aside0.mk (Kd.S_lower ho1 (below_size (by repeat (first | (with_reducible first | exact HB.out | apply below_alloc | apply pw_below_drewN | apply below_drew1) | exact HB.out)))); have n2_ := Aside0.mk (below_step (by repeat (first | (with_reducible first | exact HB.out | apply below_alloc | apply pw_below_drewN | apply below_drew1) | exact HB.out)) hb); clear HB; have HO150 := n0_; have HO152 := n1_; have HB := n2_; clear n0_ n1_ n2_; (try clear hb); (try clear hb2); (try clear hk); (try clear hi); (try clear ho0); (try clear ho1); obtain ⟨Ao62, co62, eo62⟩ := Kd.S_slice HO150.out; subst eo62))
                      repeat (go_quiet (first | (go_at_call 46; (with_reducible refine (quant_Middle.calls _ _ l4 _ _ l5 t146 t147 t148 _ ?side1 ?side2 ?side3 ?side4 A24.out).mono ?_); (case side1 => repeat (first | exact (Kd.C_below HR4.out HB.out) | (with_reducible refine Kd.C_alloc ?_ _) | (with_reducible refine Kd.C_drewN ?_ _) | (with_reducible refine Kd.C_drew ?_))); (case side2 => exact HC4.out); (case side3 => repeat (first | exact (Kd.C_below HR5.out HB.out) | (with_reducible refine Kd.C_alloc ?_ _) | (with_reducible refine Kd.C_drewN ?_ _) | (with_reducible refine Kd.C_drew ?_))); (case side4 => exact HC5.out); rintro e w61 ⟨v149, v151, rfl, ho0, ho1, hb⟩; have n0_ := Aside0.mk (Kd.S_lower ho0 (below_size (by repeat (first | (with_reducible first | exact HB.out | apply below_alloc | apply pw_below_drewN | apply below_drew1) | exact HB.out)))); have n1_ := Aside0.mk (Kd.S_lower ho1 (below_size (by repeat (first | (with_reducible first | exact HB.out | apply below_alloc | apply pw_below_drewN | apply below_drew1) | exact HB.out)))); have n2_ := Aside0.mk (below_step (by repeat (first | (with_reducible first | exact HB.out | apply below_alloc | apply pw_below_drewN | apply below_drew1) | exact HB.out)) hb); clear HB; have HO150 := n0_; have HO152 := n1_; have HB := n2_; clear n0_ n1_ n2_; (try clear hb); (try clear hb2); (try clear hk); (try clear hi); (try clear ho0); (try clear ho1); obtain ⟨Ao62, co62, eo62⟩ := Kd.S_slice HO150.out; subst eo62)); try go_wp2_with (first | (go_at_call 46; (with_reducible refine (quant_Middle.calls _ _ l4 _ _ l5 t146 t147 t148 _ ?side1 ?side2 ?side3 ?side4 A24.out).mono ?_); (case side1 => repeat (first | exact (Kd.C_below HR4.out HB.out) | (with_reducible refine Kd.C_alloc ?_ _) | (with_reducible refine Kd.C_drewN ?_ _) | (with_reducible refine Kd.C_drew ?_))); (case side2 => exact HC4.out); (case side3 => repeat (first | exact (Kd.C_below HR5.out HB.out) | (with_reducible refine Kd.C_alloc ?_ _) | (with_reducible refine Kd.C_drewN ?_ _) | (with_reducible refine Kd.C_drew ?_))); (case side4 => exact HC5.out); rintro e w61 ⟨v149, v151, rfl, ho0, ho1, hb⟩; have n0_ := Aside0.mk (Kd.S_lower ho0 (below_size (by repeat (first | (with_reducible first | exact HB.out | apply below_alloc | apply pw_below_drewN | apply below_drew1) | exact HB.out)))); have n1_ := Aside0.mk (Kd.S_lower ho1 (below_size (by repeat (first | (with_reducible first | exact HB.out | apply below_alloc | apply pw_below_drewN | apply below_drew1) | exact HB.out)))); have n2_ := Aside0.mk (below_step (by repeat (first | (with_reducible first | exact HB.out | apply below_alloc | apply pw_below_drewN | apply below_drew1) | exact HB.out)) hb); clear HB; have HO150 := n0_; have HO152 := n1_; have HB := n2_; clear n0_ n1_ n2_; (try clear hb); (try clear hb2); (try clear hk); (try clear hi); (try clear ho0); (try clear ho1); obtain ⟨Ao62, co62, eo62⟩ := Kd.S_slice HO150.out; subst eo62)))
                      go_ret
                      exact ⟨by first | rfl | (simp [errW_none, errW_some] <;> rfl) | (simp [*, errW_none, errW_some] <;> rfl), by repeat (first | (with_reducible first | exact HB.out | apply below_alloc | apply pw_below_drewN | apply below_drew1) | exact HB.out)⟩
  · replace c8 := Bool.eq_false_iff.mpr c8
    subst c8
    have H1 : (some false) = some r := by rw [if_neg (show ¬ (false = true) by decide)] at H; exact H
    clear H
    have H := H1
    clear H1
    obtain rfl := Option.some.inj H
    go_enter Try.func12, Try.ntmps12
    go_wp2_with (first | (go_at_call 32; (with_reducible refine (psalterylaw13_alive.calls k  false _ A7.out).mono ?_); rintro e w' ⟨rfl, ⟨nd, rfl⟩⟩; (try first | exact ⟨rfl, _, World.drewN_drewN _ _ _⟩ | exact ⟨rfl, _, Eq.trans (World.drewN_drewN _ _ _) (congrArg (World.drewN _) (Nat.add_assoc _ _ _))⟩)))
    repeat (go_quiet (first | (go_at_call 32; (with_reducible refine (psalterylaw13_alive.calls k  false _ A7.out).mono ?_); rintro e w' ⟨rfl, ⟨nd, rfl⟩⟩; (try first | exact ⟨rfl, _, World.drewN_drewN _ _ _⟩ | exact ⟨rfl, _, Eq.trans (World.drewN_drewN _ _ _) (congrArg (World.drewN _) (Nat.add_assoc _ _ _))⟩))); try go_wp2_with (first | (go_at_call 32; (with_reducible refine (psalterylaw13_alive.calls k  false _ A7.out).mono ?_); rintro e w' ⟨rfl, ⟨nd, rfl⟩⟩; (try first | exact ⟨rfl, _, World.drewN_drewN _ _ _⟩ | exact ⟨rfl, _, Eq.trans (World.drewN_drewN _ _ _) (congrArg (World.drewN _) (Nat.add_assoc _ _ _))⟩))))
    go_ret
    exact ⟨by first | rfl | (simp [errW_none, errW_some] <;> rfl) | (simp [*, errW_none, errW_some] <;> rfl), by repeat (first | (with_reducible first | exact HB.out | apply below_alloc | apply pw_below_drewN | apply below_drew1) | exact HB.out)⟩

end Go.Proofs.Ytnaeondfkkiimaa.PPairs
