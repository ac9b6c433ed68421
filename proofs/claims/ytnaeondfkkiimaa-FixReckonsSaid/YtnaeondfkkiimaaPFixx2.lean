/- Contracts of the functions that the law Fix reaches: each Go function as a Lean function, and that the Go text comes to it. Written by programs (wip/tools), out of the program's own loaded form. -/
import Derived.Test.YtnaeondfkkiimaaPFixx0
import Derived.Test.YtnaeondfkkiimaaPFixx1
namespace Go.Proofs.Ytnaeondfkkiimaa.PFix
open Go.RowKit Go.Proofs.YtnaeondfkkiimaaW.PrintWords Go.Proofs.YtnaeondfkkiimaaW.PrintLast Go.Proofs.YtnaeondfkkiimaaW.PrintMore
attribute [local go_sem] max2_int min2_int max_two min_two max_three min_three max_four min_four   -- for this text's walks alone
set_option linter.unusedVariables false
set_option linter.unusedSimpArgs false

/-! ### psalterylaw01_FixNear: function 4 -/
mutual
def psalterylaw01_FixNear.j0 : Nat → Int → Int → Int → Int → Bool → Option (Bool)
  | 0, _, _, _, _, _ => none
  | k + 1, x0, x1, x2, x3, x31 => if x31 = true then ((fix_Round.f x0 x1).bind fun t113 => (if 0 ≤ (IntKind.u64.wrap (x1)) then (if 0 ≤ (IntKind.u64.wrap (wrap64 (x1 - 1))) then (if (wrap64 (x0 - (wrap64 (t113 * (shl .i64 1 (IntKind.u64.wrap (x1))))))) < (wrap64 (-(shl .i64 1 (IntKind.u64.wrap (wrap64 (x1 - 1)))))) then (some false) else (if (wrap64 (x0 - (wrap64 (t113 * (shl .i64 1 (IntKind.u64.wrap (x1))))))) ≥ (shl .i64 1 (IntKind.u64.wrap (wrap64 (x1 - 1)))) then (some false) else (psalterylaw01_FixNear.j1 k x2 x3))) else (none)) else (none))) else (psalterylaw01_FixNear.j1 k x2 x3)
def psalterylaw01_FixNear.j1 : Nat → Int → Int → Option (Bool)
  | 0, _, _ => none
  | k + 1, x2, x3 => (fix_Spare.f x2).bind fun t114 => (if t114 < 0 then (psalterylaw01_FixNear.j2 k x2 x3 true) else (if t114 > 31 then (psalterylaw01_FixNear.j2 k x2 x3 true) else (if 0 ≤ (IntKind.u64.wrap (t114)) then (psalterylaw01_FixNear.j2 k x2 x3 ((shr .i32 (shl .i32 x2 (IntKind.u64.wrap (t114))) (IntKind.u64.wrap (t114))) != x2)) else (none))))
def psalterylaw01_FixNear.j2 : Nat → Int → Int → Bool → Option (Bool)
  | 0, _, _, _ => none
  | k + 1, x2, x3, x75 => if x75 = true then (some false) else ((fix_Mul31.f x2 x3).bind fun t115 => (if (wrap64 (t115)) ≤ (mx (wrap64 (x2)) (wrap64 (-(wrap64 (x2))))) then (if (wrap64 (t115)) ≥ (wrap64 (-(mx (wrap64 (x2)) (wrap64 (-(wrap64 (x2))))))) then ((fix_Mul31.f x2 x3).bind fun t116 => ((fix_Mul31.f x3 x2).bind fun t117 => (if t116 = t117 then (if (wrap64 (x3)) = 0 then (if (wrap64 (t115)) = 0 then ((fix_Add.f x2 x3).bind fun t118 => ((fix_Add.f x3 x2).bind fun t119 => (some (t118 == t119)))) else (some false)) else ((fix_Add.f x2 x3).bind fun t120 => ((fix_Add.f x3 x2).bind fun t121 => (some (t120 == t121))))) else (some false)))) else (some false)) else (some false)))
end
def psalterylaw01_FixNear.f (k : Nat) (a0 : Int) (a1 : Int) (a2 : Int) (a3 : Int) : Option (Bool) := (psalterylaw01_alive.f).bind fun t112 => (if t112 = true then (if a1 ≥ 1 then (if a1 ≤ 40 then (if a0 ≥ (-1152921504606846976) then (psalterylaw01_FixNear.j0 k a0 a1 a2 a3 (decide (a0 ≤ 1152921504606846976))) else (psalterylaw01_FixNear.j0 k a0 a1 a2 a3 false)) else (psalterylaw01_FixNear.j0 k a0 a1 a2 a3 false)) else (psalterylaw01_FixNear.j0 k a0 a1 a2 a3 false)) else (some false))
theorem psalterylaw01_FixNear.mono_l : ∀ k, (∀ y0 y1 y2 y3 y4, LeO (psalterylaw01_FixNear.j0 k y0 y1 y2 y3 y4) (psalterylaw01_FixNear.j0 (k + 1) y0 y1 y2 y3 y4)) ∧ (∀ y0 y1, LeO (psalterylaw01_FixNear.j1 k y0 y1) (psalterylaw01_FixNear.j1 (k + 1) y0 y1)) ∧ (∀ y0 y1 y2, LeO (psalterylaw01_FixNear.j2 k y0 y1 y2) (psalterylaw01_FixNear.j2 (k + 1) y0 y1 y2))
  | 0 => ⟨fun _ _ _ _ _ r h => by simp [psalterylaw01_FixNear.j0] at h, fun _ _ r h => by simp [psalterylaw01_FixNear.j1] at h, fun _ _ _ r h => by simp [psalterylaw01_FixNear.j2] at h⟩
  | k + 1 => by
    obtain ⟨ih0, ih1, ih2⟩ := psalterylaw01_FixNear.mono_l k
    refine ⟨?_, ?_, ?_⟩
    · intro y0 y1 y2 y3 y4
      unfold psalterylaw01_FixNear.j0
      repeat' first
      | (with_reducible exact ih0 _ _ _ _ _)
      | (with_reducible exact ih1 _ _)
      | (with_reducible exact ih2 _ _ _)
      | (with_reducible exact LeO.refl _)
      | (with_reducible exact LeO.none _)
      | (with_reducible refine LeO.ite ?_ ?_)
      | (with_reducible refine LeO.bind ?_ (fun _ => ?_))
      | exact ih0 _ _ _ _ _
      | exact ih1 _ _
      | exact ih2 _ _ _
      | exact LeO.none _
      | refine LeO.ite ?_ ?_
      | refine LeO.bind ?_ (fun _ => ?_)
    · intro y0 y1
      unfold psalterylaw01_FixNear.j1
      repeat' first
      | (with_reducible exact ih0 _ _ _ _ _)
      | (with_reducible exact ih1 _ _)
      | (with_reducible exact ih2 _ _ _)
      | (with_reducible exact LeO.refl _)
      | (with_reducible exact LeO.none _)
      | (with_reducible refine LeO.ite ?_ ?_)
      | (with_reducible refine LeO.bind ?_ (fun _ => ?_))
      | exact ih0 _ _ _ _ _
      | exact ih1 _ _
      | exact ih2 _ _ _
      | exact LeO.none _
      | refine LeO.ite ?_ ?_
      | refine LeO.bind ?_ (fun _ => ?_)
    · intro y0 y1 y2
      unfold psalterylaw01_FixNear.j2
      repeat' first
      | (with_reducible exact ih0 _ _ _ _ _)
      | (with_reducible exact ih1 _ _)
      | (with_reducible exact ih2 _ _ _)
      | (with_reducible exact LeO.refl _)
      | (with_reducible exact LeO.none _)
      | (with_reducible refine LeO.ite ?_ ?_)
      | (with_reducible refine LeO.bind ?_ (fun _ => ?_))
      | exact ih0 _ _ _ _ _
      | exact ih1 _ _
      | exact ih2 _ _ _
      | exact LeO.none _
      | refine LeO.ite ?_ ?_
      | refine LeO.bind ?_ (fun _ => ?_)
theorem psalterylaw01_FixNear.mono : ∀ a0 a1 a2 a3 k, LeO (psalterylaw01_FixNear.f k a0 a1 a2 a3) (psalterylaw01_FixNear.f (k + 1) a0 a1 a2 a3) := by
  intro a0 a1 a2 a3 k
  obtain ⟨ih0, ih1, ih2⟩ := psalterylaw01_FixNear.mono_l k
  unfold psalterylaw01_FixNear.f
  repeat' first
      | (with_reducible exact ih0 _ _ _ _ _)
      | (with_reducible exact ih1 _ _)
      | (with_reducible exact ih2 _ _ _)
      | (with_reducible exact LeO.refl _)
      | (with_reducible exact LeO.none _)
      | (with_reducible refine LeO.ite ?_ ?_)
      | (with_reducible refine LeO.bind ?_ (fun _ => ?_))
      | exact ih0 _ _ _ _ _
      | exact ih1 _ _
      | exact ih2 _ _ _
      | exact LeO.none _
      | refine LeO.ite ?_ ?_
      | refine LeO.bind ?_ (fun _ => ?_)
set_option maxHeartbeats 8000000 in
set_option maxRecDepth 100000 in
theorem psalterylaw01_FixNear.calls (k : Nat) (a0 : Int) (a1 : Int) (a2 : Int) (a3 : Int) (r : Bool) (w : World) (h : psalterylaw01_FixNear.f k a0 a1 a2 a3 = some r) :
    Calls Try.prog 4 #[.int .i64 a0, .int .i64 a1, .int .i32 a2, .int .i32 a3] w fun e w' => e = .returned (.bool r) ∧ Below w.heap.size w w' := by
  have HB := Aside0.mk (Below.refl w.heap.size w)
  have H : ((psalterylaw01_alive.f).bind fun t112 => (if t112 = true then (if a1 ≥ 1 then (if a1 ≤ 40 then (if a0 ≥ (-1152921504606846976) then (psalterylaw01_FixNear.j0 k a0 a1 a2 a3 (decide (a0 ≤ 1152921504606846976))) else (psalterylaw01_FixNear.j0 k a0 a1 a2 a3 false)) else (psalterylaw01_FixNear.j0 k a0 a1 a2 a3 false)) else (psalterylaw01_FixNear.j0 k a0 a1 a2 a3 false)) else (some false))) = some r := h
  clear h
  replace H := Option.bind_eq_some_iff.mp H
  obtain ⟨t112, A50, H⟩ := H
  replace H : (if t112 = true then (if a1 ≥ 1 then (if a1 ≤ 40 then (if a0 ≥ (-1152921504606846976) then (psalterylaw01_FixNear.j0 k a0 a1 a2 a3 (decide (a0 ≤ 1152921504606846976))) else (psalterylaw01_FixNear.j0 k a0 a1 a2 a3 false)) else (psalterylaw01_FixNear.j0 k a0 a1 a2 a3 false)) else (psalterylaw01_FixNear.j0 k a0 a1 a2 a3 false)) else (some false)) = some r := H
  have A5 := Aside0.mk A50
  clear A50
  by_cases c6 : t112 = true
  · subst c6
    have H1 : (if a1 ≥ 1 then (if a1 ≤ 40 then (if a0 ≥ (-1152921504606846976) then (psalterylaw01_FixNear.j0 k a0 a1 a2 a3 (decide (a0 ≤ 1152921504606846976))) else (psalterylaw01_FixNear.j0 k a0 a1 a2 a3 false)) else (psalterylaw01_FixNear.j0 k a0 a1 a2 a3 false)) else (psalterylaw01_FixNear.j0 k a0 a1 a2 a3 false)) = some r := by rw [if_pos rfl] at H; exact H
    clear H
    have H := H1
    clear H1
    have HC7 := Aside0.mk H
    clear H
    go_enter Try.func4, Try.ntmps4
    go_upto_region 3 with (first | ((with_reducible refine gate_callee (f := 19) rfl ?_); refine goesL_ (some 16) rfl rfl Try.func19 (by kernel_rfl) rfl #[] rfl (by (try simp only [List.map_toArray, List.map_cons, List.map_nil]); first | done | rfl | (simp only [List.length_drop, List.length_take]; rfl)) ?_; (with_reducible refine (psalterylaw01_alive.calls  true _ A5.out).mono ?_); rintro e w' ⟨rfl, ⟨nd, rfl⟩⟩; refine ⟨_, rfl, ?_⟩))
    (try simp only [Act.put, List.setIfInBounds_toArray, List.set_cons_zero, List.set_cons_succ])
    go_cut [31] (fun v31 wc => ∃ (kq : Nat) (x31_6 : Bool), v31 = .bool x31_6 ∧ Aside0 (psalterylaw01_FixNear.j0 kq a0 a1 a2 a3 x31_6 = some r) ∧ Aside0 (kq ≤ k) ∧ Aside0 (Below w.heap.size w wc))
    case first =>
      have H := HC7.out
      clear HC7
      by_cases c8 : a1 ≥ 1
      · rw [if_pos c8] at H
        have c8b0 : decide (1 ≤ a1) = true := decide_eq_true c8
        clear c8
        (first | rw [c8b0] | (simp only [i64_w, i32_w]; rw [c8b0]) | skip)
        by_cases c9 : a1 ≤ 40
        · rw [if_pos c9] at H
          have c9b0 : decide (a1 ≤ 40) = true := decide_eq_true c9
          clear c9
          by_cases c10 : a0 ≥ (-1152921504606846976)
          · rw [if_pos c10] at H
            have c10b0 : decide ((-1152921504606846976) ≤ a0) = true := decide_eq_true c10
            clear c10
            have H' := Aside0.mk H
            clear H
            go_wp2
            go_meet
            case rel => exact ⟨_, (decide (a0 ≤ 1152921504606846976)), (by first | rfl | (simp; done) | (simp [*]; done)), H', ⟨by first | omega | exact Nat.le_refl _⟩, ⟨by repeat (first | (with_reducible first | exact HB.out | apply below_alloc | apply pw_below_drewN | apply below_drew1) | exact HB.out)⟩⟩
          · rw [if_neg c10] at H
            have c10b0 : decide ((-1152921504606846976) ≤ a0) = false := decide_eq_false c10
            clear c10
            have H' := Aside0.mk H
            clear H
            go_wp2
            go_meet
            case rel => exact ⟨_, (false), (by first | rfl | (simp; done) | (simp [*]; done)), H', ⟨by first | omega | exact Nat.le_refl _⟩, ⟨by repeat (first | (with_reducible first | exact HB.out | apply below_alloc | apply pw_below_drewN | apply below_drew1) | exact HB.out)⟩⟩
        · rw [if_neg c9] at H
          have c9b0 : decide (a1 ≤ 40) = false := decide_eq_false c9
          clear c9
          have H' := Aside0.mk H
          clear H
          go_wp2
          go_meet
          case rel => exact ⟨_, (false), (by first | rfl | (simp; done) | (simp [*]; done)), H', ⟨by first | omega | exact Nat.le_refl _⟩, ⟨by repeat (first | (with_reducible first | exact HB.out | apply below_alloc | apply pw_below_drewN | apply below_drew1) | exact HB.out)⟩⟩
      · rw [if_neg c8] at H
        have c8b0 : decide (1 ≤ a1) = false := decide_eq_false c8
        clear c8
        (first | rw [c8b0] | (simp only [i64_w, i32_w]; rw [c8b0]) | skip)
        have H' := Aside0.mk H
        clear H
        go_wp2
        go_meet
        case rel => exact ⟨_, (false), (by first | rfl | (simp; done) | (simp [*]; done)), H', ⟨by first | omega | exact Nat.le_refl _⟩, ⟨by repeat (first | (with_reducible first | exact HB.out | apply below_alloc | apply pw_below_drewN | apply below_drew1) | exact HB.out)⟩⟩
    case rest =>
      clear HC7
      try clear c1
      try clear p2
      try clear c4
      try clear c6
      try clear c8
      try clear c8b0
      try clear c9
      try clear c9b0
      try clear c10
      try clear c10b0
      obtain ⟨kq, x31_6, rfl, HA, HJ6, HB⟩ := hcut
      cases kq with
      | zero => exact absurd HA.out (by simp [psalterylaw01_FixNear.j0])
      | succ kj6 =>
        have H := HA.out
        clear HA
        simp only [psalterylaw01_FixNear.j0] at H
        have HC11 := Aside0.mk H
        clear H
        go_upto_if 31 with (fail)
        go_cut [] (fun wc => ∃ (kq : Nat), Aside0 (psalterylaw01_FixNear.j1 kq a2 a3 = some r) ∧ Aside0 (kq ≤ kj6) ∧ Aside0 (Below w.heap.size w wc))
        case first =>
          have H := HC11.out
          clear HC11
          by_cases c12 : x31_6 = true
          · subst c12
            have H1 : ((fix_Round.f a0 a1).bind fun t113 => (if 0 ≤ (IntKind.u64.wrap (a1)) then (if 0 ≤ (IntKind.u64.wrap (wrap64 (a1 - 1))) then (if (wrap64 (a0 - (wrap64 (t113 * (shl .i64 1 (IntKind.u64.wrap (a1))))))) < (wrap64 (-(shl .i64 1 (IntKind.u64.wrap (wrap64 (a1 - 1)))))) then (some false) else (if (wrap64 (a0 - (wrap64 (t113 * (shl .i64 1 (IntKind.u64.wrap (a1))))))) ≥ (shl .i64 1 (IntKind.u64.wrap (wrap64 (a1 - 1)))) then (some false) else (psalterylaw01_FixNear.j1 kj6 a2 a3))) else (none)) else (none))) = some r := by rw [if_pos rfl] at H; exact H
            clear H
            have H := H1
            clear H1
            replace H := Option.bind_eq_some_iff.mp H
            obtain ⟨t113, A130, H⟩ := H
            replace H : (if 0 ≤ (IntKind.u64.wrap (a1)) then (if 0 ≤ (IntKind.u64.wrap (wrap64 (a1 - 1))) then (if (wrap64 (a0 - (wrap64 (t113 * (shl .i64 1 (IntKind.u64.wrap (a1))))))) < (wrap64 (-(shl .i64 1 (IntKind.u64.wrap (wrap64 (a1 - 1)))))) then (some false) else (if (wrap64 (a0 - (wrap64 (t113 * (shl .i64 1 (IntKind.u64.wrap (a1))))))) ≥ (shl .i64 1 (IntKind.u64.wrap (wrap64 (a1 - 1)))) then (some false) else (psalterylaw01_FixNear.j1 kj6 a2 a3))) else (none)) else (none)) = some r := H
            have A13 := Aside0.mk A130
            clear A130
            obtain ⟨ji14, hji14⟩ : ∃ j_ : Int, (IntKind.u64.wrap (a1)) = j_ := ⟨_, rfl⟩
            replace H : (if 0 ≤ (ji14) then (if 0 ≤ (IntKind.u64.wrap (wrap64 (a1 - 1))) then (if (wrap64 (a0 - (wrap64 (t113 * (shl .i64 1 (ji14)))))) < (wrap64 (-(shl .i64 1 (IntKind.u64.wrap (wrap64 (a1 - 1)))))) then (some false) else (if (wrap64 (a0 - (wrap64 (t113 * (shl .i64 1 (ji14)))))) ≥ (shl .i64 1 (IntKind.u64.wrap (wrap64 (a1 - 1)))) then (some false) else (psalterylaw01_FixNear.j1 kj6 a2 a3))) else (none)) else (none)) = some r := by first | (rw [hji14] at H; exact H) | (simp only [hji14] at H ⊢; exact H)
            (try rw [hji14] at A13)
            by_cases c15 : 0 ≤ (ji14)
            · rw [if_pos c15] at H
              have c15b0 := eq_true c15
              have c15b1 : decide (0 ≤ (ji14)) = true := decide_eq_true c15
              clear c15
              obtain ⟨ji16, hji16⟩ : ∃ j_ : Int, (shl .i64 1 (ji14)) = j_ := ⟨_, rfl⟩
              replace H : (if 0 ≤ (IntKind.u64.wrap (wrap64 (a1 - 1))) then (if (wrap64 (a0 - (wrap64 (t113 * (ji16))))) < (wrap64 (-(shl .i64 1 (IntKind.u64.wrap (wrap64 (a1 - 1)))))) then (some false) else (if (wrap64 (a0 - (wrap64 (t113 * (ji16))))) ≥ (shl .i64 1 (IntKind.u64.wrap (wrap64 (a1 - 1)))) then (some false) else (psalterylaw01_FixNear.j1 kj6 a2 a3))) else (none)) = some r := by first | (rw [hji16] at H; exact H) | (simp only [hji16] at H ⊢; exact H)
              (try rw [hji16] at A13)
              have hji16_ : (IntKind.i64.wrap (1 * 2 ^ min (ji14).toNat 64)) = ji16 := hji16
              have hji16z : (ji14) ≤ 64 → (IntKind.i64.wrap (1 * 2 ^ (ji14).toNat)) = ji16 := shl_small hji16
              have hji16u : (IntKind.i64.wrap (2 ^ min (ji14).toNat 64)) = ji16 := by have h_ := hji16_; rw [Int.one_mul] at h_; exact h_
              have hji16v : (ji14) ≤ 64 → (IntKind.i64.wrap (2 ^ (ji14).toNat)) = ji16 := fun hle_ => by have h_ := hji16z hle_; rw [Int.one_mul] at h_; exact h_
              have hji16y : (wrap64 (1 * 2 ^ min (ji14).toNat 64)) = ji16 := (i64_w _).symm.trans hji16_
              have hji16x : (ji14) ≤ 64 → (wrap64 (1 * 2 ^ (ji14).toNat)) = ji16 := fun h_ => (i64_w _).symm.trans (hji16z h_)
              obtain ⟨ji17, hji17⟩ : ∃ j_ : Int, (IntKind.u64.wrap (wrap64 (a1 - 1))) = j_ := ⟨_, rfl⟩
              replace H : (if 0 ≤ (ji17) then (if (wrap64 (a0 - (wrap64 (t113 * (ji16))))) < (wrap64 (-(shl .i64 1 (ji17)))) then (some false) else (if (wrap64 (a0 - (wrap64 (t113 * (ji16))))) ≥ (shl .i64 1 (ji17)) then (some false) else (psalterylaw01_FixNear.j1 kj6 a2 a3))) else (none)) = some r := by first | (rw [hji17] at H; exact H) | (simp only [hji17] at H ⊢; exact H)
              (try rw [hji17] at A13)
              by_cases c18 : 0 ≤ (ji17)
              · rw [if_pos c18] at H
                have c18b0 := eq_true c18
                have c18b1 : decide (0 ≤ (ji17)) = true := decide_eq_true c18
                clear c18
                obtain ⟨ji19, hji19⟩ : ∃ j_ : Int, (shl .i64 1 (ji17)) = j_ := ⟨_, rfl⟩
                replace H : (if (wrap64 (a0 - (wrap64 (t113 * (ji16))))) < (wrap64 (-(ji19))) then (some false) else (if (wrap64 (a0 - (wrap64 (t113 * (ji16))))) ≥ (ji19) then (some false) else (psalterylaw01_FixNear.j1 kj6 a2 a3))) = some r := by first | (rw [hji19] at H; exact H) | (simp only [hji19] at H ⊢; exact H)
                (try rw [hji19] at A13)
                have hji19_ : (IntKind.i64.wrap (1 * 2 ^ min (ji17).toNat 64)) = ji19 := hji19
                have hji19z : (ji17) ≤ 64 → (IntKind.i64.wrap (1 * 2 ^ (ji17).toNat)) = ji19 := shl_small hji19
                have hji19u : (IntKind.i64.wrap (2 ^ min (ji17).toNat 64)) = ji19 := by have h_ := hji19_; rw [Int.one_mul] at h_; exact h_
                have hji19v : (ji17) ≤ 64 → (IntKind.i64.wrap (2 ^ (ji17).toNat)) = ji19 := fun hle_ => by have h_ := hji19z hle_; rw [Int.one_mul] at h_; exact h_
                have hji19y : (wrap64 (1 * 2 ^ min (ji17).toNat 64)) = ji19 := (i64_w _).symm.trans hji19_
                have hji19x : (ji17) ≤ 64 → (wrap64 (1 * 2 ^ (ji17).toNat)) = ji19 := fun h_ => (i64_w _).symm.trans (hji19z h_)
                by_cases c20 : (wrap64 (a0 - (wrap64 (t113 * (ji16))))) < (wrap64 (-(ji19)))
                · rw [if_pos c20] at H
                  have c20b0 : decide ((wrap64 (a0 - (wrap64 (t113 * (ji16))))) < (wrap64 (-(ji19)))) = true := decide_eq_true c20
                  clear c20
                  (first | rw [c20b0] | (simp only [i64_w, i32_w]; rw [c20b0]) | skip)
                  obtain rfl := Option.some.inj H
                  go_wp2_with (first | ((with_reducible refine gate_callee (f := 20) rfl ?_); refine goesL_ (some 34) rfl rfl Try.func20 (by kernel_rfl) rfl #[.int .i64 a0, .int .i64 a1] rfl (by (try simp only [List.map_toArray, List.map_cons, List.map_nil]); first | done | rfl | (simp only [List.length_drop, List.length_take]; rfl)) ?_; (with_reducible refine (fix_Round.calls a0 a1 t113 _ A13.out).mono ?_); rintro e w' ⟨rfl, ⟨nd, rfl⟩⟩; refine ⟨_, rfl, ?_⟩))
                  go_ret
                  exact ⟨by first | rfl | (simp [errW_none, errW_some] <;> rfl) | (simp only [← hji14, ← hji16, ← hji17, ← hji19]; first | rfl | (simp [errW_none, errW_some] <;> rfl)) | (simp [*, errW_none, errW_some] <;> rfl), by repeat (first | (with_reducible first | exact HB.out | apply below_alloc | apply pw_below_drewN | apply below_drew1) | exact HB.out)⟩
                · rw [if_neg c20] at H
                  have c20b0 : decide ((wrap64 (a0 - (wrap64 (t113 * (ji16))))) < (wrap64 (-(ji19)))) = false := decide_eq_false c20
                  clear c20
                  (first | rw [c20b0] | (simp only [i64_w, i32_w]; rw [c20b0]) | skip)
                  have c21b0 := eq_true (of_decide_eq_true (by first | (with_reducible assumption) | assumption) : 0 ≤ (ji17))
                  by_cases c23 : (wrap64 (a0 - (wrap64 (t113 * (ji16))))) ≥ (ji19)
                  · rw [if_pos c23] at H
                    have c23b0 : decide ((ji19) ≤ (wrap64 (a0 - (wrap64 (t113 * (ji16)))))) = true := decide_eq_true c23
                    clear c23
                    obtain rfl := Option.some.inj H
                    go_wp2_with (first | ((with_reducible refine gate_callee (f := 20) rfl ?_); refine goesL_ (some 34) rfl rfl Try.func20 (by kernel_rfl) rfl #[.int .i64 a0, .int .i64 a1] rfl (by (try simp only [List.map_toArray, List.map_cons, List.map_nil]); first | done | rfl | (simp only [List.length_drop, List.length_take]; rfl)) ?_; (with_reducible refine (fix_Round.calls a0 a1 t113 _ A13.out).mono ?_); rintro e w' ⟨rfl, ⟨nd, rfl⟩⟩; refine ⟨_, rfl, ?_⟩))
                    go_ret
                    exact ⟨by first | rfl | (simp [errW_none, errW_some] <;> rfl) | (simp only [← hji14, ← hji16, ← hji17, ← hji19]; first | rfl | (simp [errW_none, errW_some] <;> rfl)) | (simp [*, errW_none, errW_some] <;> rfl), by repeat (first | (with_reducible first | exact HB.out | apply below_alloc | apply pw_below_drewN | apply below_drew1) | exact HB.out)⟩
                  · rw [if_neg c23] at H
                    have c23b0 : decide ((ji19) ≤ (wrap64 (a0 - (wrap64 (t113 * (ji16)))))) = false := decide_eq_false c23
                    clear c23
                    have H' := Aside0.mk H
                    clear H
                    go_wp2_with (first | ((with_reducible refine gate_callee (f := 20) rfl ?_); refine goesL_ (some 34) rfl rfl Try.func20 (by kernel_rfl) rfl #[.int .i64 a0, .int .i64 a1] rfl (by (try simp only [List.map_toArray, List.map_cons, List.map_nil]); first | done | rfl | (simp only [List.length_drop, List.length_take]; rfl)) ?_; (with_reducible refine (fix_Round.calls a0 a1 t113 _ A13.out).mono ?_); rintro e w' ⟨rfl, ⟨nd, rfl⟩⟩; refine ⟨_, rfl, ?_⟩))
                    go_meet
                    case rel => exact ⟨_, H', ⟨by have := HJ6.out; first | omega | exact Nat.le_refl _⟩, ⟨by repeat (first | (with_reducible first | exact HB.out | apply below_alloc | apply pw_below_drewN | apply below_drew1) | exact HB.out)⟩⟩
              · rw [if_neg c18] at H
                exact absurd H (by simp)
            · rw [if_neg c15] at H
              exact absurd H (by simp)
          · replace c12 := Bool.eq_false_iff.mpr c12
            subst c12
            have H1 : (psalterylaw01_FixNear.j1 kj6 a2 a3) = some r := by rw [if_neg (show ¬ (false = true) by decide)] at H; exact H
            clear H
            have H := H1
            clear H1
            have H' := Aside0.mk H
            clear H
            go_wp2
            go_meet
            case rel => exact ⟨_, H', ⟨by have := HJ6.out; first | omega | exact Nat.le_refl _⟩, ⟨by repeat (first | (with_reducible first | exact HB.out | apply below_alloc | apply pw_below_drewN | apply below_drew1) | exact HB.out)⟩⟩
        case rest =>
          clear HC11
          try clear c1
          try clear c2
          try clear p2
          try clear c4
          try clear c6
          try clear p6
          try clear c8
          try clear c8b0
          try clear c9
          try clear c9b0
          try clear c10
          try clear c10b0
          try clear c12
          try clear c15
          try clear c15b0
          try clear c15b1
          try clear c18
          try clear c18b0
          try clear c18b1
          try clear c19
          try clear c20
          try clear c20b0
          try clear c21
          try clear c21b0
          try clear c22
          try clear c22b0
          try clear c23
          try clear c23b0
          try clear p2
          obtain ⟨kq, HA, HJ10, HB⟩ := hcut
          cases kq with
          | zero => exact absurd HA.out (by simp [psalterylaw01_FixNear.j1])
          | succ kj10 =>
            have H := HA.out
            clear HA
            simp only [psalterylaw01_FixNear.j1] at H
            replace H := Option.bind_eq_some_iff.mp H
            obtain ⟨t114, A240, H⟩ := H
            replace H : (if t114 < 0 then (psalterylaw01_FixNear.j2 kj10 a2 a3 true) else (if t114 > 31 then (psalterylaw01_FixNear.j2 kj10 a2 a3 true) else (if 0 ≤ (IntKind.u64.wrap (t114)) then (psalterylaw01_FixNear.j2 kj10 a2 a3 ((shr .i32 (shl .i32 a2 (IntKind.u64.wrap (t114))) (IntKind.u64.wrap (t114))) != a2)) else (none)))) = some r := H
            have A24 := Aside0.mk A240
            clear A240
            have HC25 := Aside0.mk H
            clear H
            go_upto_region 9 with (first | ((with_reducible refine gate_callee (f := 21) rfl ?_); refine goesL_ (some 58) rfl rfl Try.func21 (by kernel_rfl) rfl #[.int .i32 a2] rfl (by (try simp only [List.map_toArray, List.map_cons, List.map_nil]); first | done | rfl | (simp only [List.length_drop, List.length_take]; rfl)) ?_; (with_reducible refine (fix_Spare.calls a2 t114 _ A24.out).mono ?_); rintro e w' ⟨rfl, ⟨nd, rfl⟩⟩; refine ⟨_, rfl, ?_⟩))
            (try simp only [Act.put, List.setIfInBounds_toArray, List.set_cons_zero, List.set_cons_succ])
            go_cut [75] (fun v75 wc => ∃ (kq : Nat) (x75_24 : Bool), v75 = .bool x75_24 ∧ Aside0 (psalterylaw01_FixNear.j2 kq a2 a3 x75_24 = some r) ∧ Aside0 (kq ≤ kj10) ∧ Aside0 (Below w.heap.size w wc))
            case first =>
              have H := HC25.out
              clear HC25
              by_cases c26 : t114 < 0
              · rw [if_pos c26] at H
                have c26b0 : decide (t114 < 0) = true := decide_eq_true c26
                clear c26
                (first | rw [c26b0] | (simp only [i64_w, i32_w]; rw [c26b0]) | skip)
                have H' := Aside0.mk H
                clear H
                go_wp2
                go_meet
                case rel => exact ⟨_, (true), (by first | rfl | (simp; done) | (simp [*]; done)), H', ⟨by have := HJ6.out; have := HJ10.out; first | omega | exact Nat.le_refl _⟩, ⟨by repeat (first | (with_reducible first | exact HB.out | apply below_alloc | apply pw_below_drewN | apply below_drew1) | exact HB.out)⟩⟩
              · rw [if_neg c26] at H
                have c26b0 : decide (t114 < 0) = false := decide_eq_false c26
                clear c26
                (first | rw [c26b0] | (simp only [i64_w, i32_w]; rw [c26b0]) | skip)
                by_cases c27 : t114 > 31
                · rw [if_pos c27] at H
                  have c27b0 : decide (31 < t114) = true := decide_eq_true c27
                  clear c27
                  have H' := Aside0.mk H
                  clear H
                  go_wp2
                  go_meet
                  case rel => exact ⟨_, (true), (by first | rfl | (simp; done) | (simp [*]; done)), H', ⟨by have := HJ6.out; have := HJ10.out; first | omega | exact Nat.le_refl _⟩, ⟨by repeat (first | (with_reducible first | exact HB.out | apply below_alloc | apply pw_below_drewN | apply below_drew1) | exact HB.out)⟩⟩
                · rw [if_neg c27] at H
                  have c27b0 : decide (31 < t114) = false := decide_eq_false c27
                  clear c27
                  obtain ⟨ji28, hji28⟩ : ∃ j_ : Int, (IntKind.u64.wrap (t114)) = j_ := ⟨_, rfl⟩
                  replace H : (if 0 ≤ (ji28) then (psalterylaw01_FixNear.j2 kj10 a2 a3 ((shr .i32 (shl .i32 a2 (ji28)) (ji28)) != a2)) else (none)) = some r := by first | (rw [hji28] at H; exact H) | (simp only [hji28] at H ⊢; exact H)
                  by_cases c29 : 0 ≤ (ji28)
                  · rw [if_pos c29] at H
                    have c29b0 := eq_true c29
                    have c29b1 : decide (0 ≤ (ji28)) = true := decide_eq_true c29
                    clear c29
                    obtain ⟨ji30, hji30⟩ : ∃ j_ : Int, (shl .i32 a2 (ji28)) = j_ := ⟨_, rfl⟩
                    replace H : (psalterylaw01_FixNear.j2 kj10 a2 a3 ((shr .i32 (ji30) (ji28)) != a2)) = some r := by first | (rw [hji30] at H; exact H) | (simp only [hji30] at H ⊢; exact H)
                    have hji30_ : (IntKind.i32.wrap (a2 * 2 ^ min (ji28).toNat 32)) = ji30 := hji30
                    have hji30z : (ji28) ≤ 32 → (IntKind.i32.wrap (a2 * 2 ^ (ji28).toNat)) = ji30 := shl_small hji30
                    have hji30y : (wrap32 (a2 * 2 ^ min (ji28).toNat 32)) = ji30 := (i32_w _).symm.trans hji30_
                    have hji30x : (ji28) ≤ 32 → (wrap32 (a2 * 2 ^ (ji28).toNat)) = ji30 := fun h_ => (i32_w _).symm.trans (hji30z h_)
                    have c31b0 := eq_true (of_decide_eq_true (by first | (with_reducible assumption) | assumption) : 0 ≤ (ji28))
                    obtain ⟨ji32, hji32⟩ : ∃ j_ : Int, (shr .i32 (ji30) (ji28)) = j_ := ⟨_, rfl⟩
                    replace H : (psalterylaw01_FixNear.j2 kj10 a2 a3 ((ji32) != a2)) = some r := by first | (rw [hji32] at H; exact H) | (simp only [hji32] at H ⊢; exact H)
                    have hji32_ : ((ji30) / 2 ^ min (ji28).toNat 32) = ji32 := hji32
                    have hji32z : (ji28) ≤ 32 → ((ji30) / 2 ^ (ji28).toNat) = ji32 := shr_small hji32
                    have H' := Aside0.mk H
                    clear H
                    go_wp2
                    go_meet
                    case rel => exact ⟨_, (((ji32) != a2)), (by first | rfl | (simp; done) | (simp only [← hji32] <;> (first | rfl | (simp; done))) | (simp [*]; done)), H', ⟨by have := HJ6.out; have := HJ10.out; first | omega | exact Nat.le_refl _⟩, ⟨by repeat (first | (with_reducible first | exact HB.out | apply below_alloc | apply pw_below_drewN | apply below_drew1) | exact HB.out)⟩⟩
                  · rw [if_neg c29] at H
                    exact absurd H (by simp)
            case rest =>
              clear HC25
              try clear c1
              try clear c2
              try clear p2
              try clear c3
              try clear p3
              try clear c4
              try clear c6
              try clear p6
              try clear c8
              try clear c8b0
              try clear c9
              try clear c9b0
              try clear c10
              try clear c10b0
              try clear c12
              try clear c15
              try clear c15b0
              try clear c15b1
              try clear c18
              try clear c18b0
              try clear c18b1
              try clear c19
              try clear c20
              try clear c20b0
              try clear c21
              try clear c21b0
              try clear c22
              try clear c22b0
              try clear c23
              try clear c23b0
              try clear c26
              try clear c26b0
              try clear c27
              try clear c27b0
              try clear c29
              try clear c29b0
              try clear c29b1
              try clear c31
              try clear c31b0
              try clear p32
              try clear p2
              try clear p6
              obtain ⟨kq, x75_24, rfl, HA, HJ24, HB⟩ := hcut
              cases kq with
              | zero => exact absurd HA.out (by simp [psalterylaw01_FixNear.j2])
              | succ kj24 =>
                have H := HA.out
                clear HA
                simp only [psalterylaw01_FixNear.j2] at H
                by_cases c33 : x75_24 = true
                · subst c33
                  have H1 : (some false) = some r := by rw [if_pos rfl] at H; exact H
                  clear H
                  have H := H1
                  clear H1
                  obtain rfl := Option.some.inj H
                  go_wp2
                  go_ret
                  exact ⟨by first | rfl | (simp [errW_none, errW_some] <;> rfl) | (simp [*, errW_none, errW_some] <;> rfl), by repeat (first | (with_reducible first | exact HB.out | apply below_alloc | apply pw_below_drewN | apply below_drew1) | exact HB.out)⟩
                · replace c33 := Bool.eq_false_iff.mpr c33
                  subst c33
                  have H1 : ((fix_Mul31.f a2 a3).bind fun t115 => (if (wrap64 (t115)) ≤ (mx (wrap64 (a2)) (wrap64 (-(wrap64 (a2))))) then (if (wrap64 (t115)) ≥ (wrap64 (-(mx (wrap64 (a2)) (wrap64 (-(wrap64 (a2))))))) then ((fix_Mul31.f a2 a3).bind fun t116 => ((fix_Mul31.f a3 a2).bind fun t117 => (if t116 = t117 then (if (wrap64 (a3)) = 0 then (if (wrap64 (t115)) = 0 then ((fix_Add.f a2 a3).bind fun t118 => ((fix_Add.f a3 a2).bind fun t119 => (some (t118 == t119)))) else (some false)) else ((fix_Add.f a2 a3).bind fun t120 => ((fix_Add.f a3 a2).bind fun t121 => (some (t120 == t121))))) else (some false)))) else (some false)) else (some false))) = some r := by rw [if_neg (show ¬ (false = true) by decide)] at H; exact H
                  clear H
                  have H := H1
                  clear H1
                  replace H := Option.bind_eq_some_iff.mp H
                  obtain ⟨t115, A340, H⟩ := H
                  replace H : (if (wrap64 (t115)) ≤ (mx (wrap64 (a2)) (wrap64 (-(wrap64 (a2))))) then (if (wrap64 (t115)) ≥ (wrap64 (-(mx (wrap64 (a2)) (wrap64 (-(wrap64 (a2))))))) then ((fix_Mul31.f a2 a3).bind fun t116 => ((fix_Mul31.f a3 a2).bind fun t117 => (if t116 = t117 then (if (wrap64 (a3)) = 0 then (if (wrap64 (t115)) = 0 then ((fix_Add.f a2 a3).bind fun t118 => ((fix_Add.f a3 a2).bind fun t119 => (some (t118 == t119)))) else (some false)) else ((fix_Add.f a2 a3).bind fun t120 => ((fix_Add.f a3 a2).bind fun t121 => (some (t120 == t121))))) else (some false)))) else (some false)) else (some false)) = some r := H
                  have A34 := Aside0.mk A340
                  clear A340
                  obtain ⟨ji35, hji35⟩ : ∃ j_ : Int, (mx (wrap64 (a2)) (wrap64 (-(wrap64 (a2))))) = j_ := ⟨_, rfl⟩
                  replace H : (if (wrap64 (t115)) ≤ (ji35) then (if (wrap64 (t115)) ≥ (wrap64 (-(ji35))) then ((fix_Mul31.f a2 a3).bind fun t116 => ((fix_Mul31.f a3 a2).bind fun t117 => (if t116 = t117 then (if (wrap64 (a3)) = 0 then (if (wrap64 (t115)) = 0 then ((fix_Add.f a2 a3).bind fun t118 => ((fix_Add.f a3 a2).bind fun t119 => (some (t118 == t119)))) else (some false)) else ((fix_Add.f a2 a3).bind fun t120 => ((fix_Add.f a3 a2).bind fun t121 => (some (t120 == t121))))) else (some false)))) else (some false)) else (some false)) = some r := by first | (rw [hji35] at H; exact H) | (simp only [hji35] at H ⊢; exact H)
                  (try rw [hji35] at A34)
                  have hji35_ : (if (wrap64 (a2)) < (wrap64 (-(wrap64 (a2)))) then (wrap64 (-(wrap64 (a2)))) else (wrap64 (a2))) = ji35 := hji35
                  by_cases c36 : (wrap64 (t115)) ≤ (ji35)
                  · rw [if_pos c36] at H
                    have c36b0 : decide ((wrap64 (t115)) ≤ (ji35)) = true := decide_eq_true c36
                    clear c36
                    by_cases c37 : (wrap64 (t115)) ≥ (wrap64 (-(ji35)))
                    · rw [if_pos c37] at H
                      have c37b0 : decide ((wrap64 (-(ji35))) ≤ (wrap64 (t115))) = true := decide_eq_true c37
                      clear c37
                      replace H := Option.bind_eq_some_iff.mp H
                      obtain ⟨t116, A380, H⟩ := H
                      replace H : ((fix_Mul31.f a3 a2).bind fun t117 => (if t116 = t117 then (if (wrap64 (a3)) = 0 then (if (wrap64 (t115)) = 0 then ((fix_Add.f a2 a3).bind fun t118 => ((fix_Add.f a3 a2).bind fun t119 => (some (t118 == t119)))) else (some false)) else ((fix_Add.f a2 a3).bind fun t120 => ((fix_Add.f a3 a2).bind fun t121 => (some (t120 == t121))))) else (some false))) = some r := H
                      have A38 := Aside0.mk A380
                      clear A380
                      replace H := Option.bind_eq_some_iff.mp H
                      obtain ⟨t117, A390, H⟩ := H
                      replace H : (if t116 = t117 then (if (wrap64 (a3)) = 0 then (if (wrap64 (t115)) = 0 then ((fix_Add.f a2 a3).bind fun t118 => ((fix_Add.f a3 a2).bind fun t119 => (some (t118 == t119)))) else (some false)) else ((fix_Add.f a2 a3).bind fun t120 => ((fix_Add.f a3 a2).bind fun t121 => (some (t120 == t121))))) else (some false)) = some r := H
                      have A39 := Aside0.mk A390
                      clear A390
                      by_cases c40 : t116 = t117
                      · rw [if_pos c40] at H
                        have c40b0 : (t116 == t117) = true := beq_iff_eq.mpr c40
                        have c40b1 : (t116 != t117) = false := bne_eq_false_iff_eq.mpr c40
                        clear c40
                        by_cases c41 : (wrap64 (a3)) = 0
                        · rw [if_pos c41] at H
                          have c41b0 : ((wrap64 (a3)) == 0) = true := beq_iff_eq.mpr c41
                          have c41b1 : ((wrap64 (a3)) != 0) = false := bne_eq_false_iff_eq.mpr c41
                          clear c41
                          by_cases c42 : (wrap64 (t115)) = 0
                          · rw [if_pos c42] at H
                            have c42b0 : ((wrap64 (t115)) == 0) = true := beq_iff_eq.mpr c42
                            have c42b1 : ((wrap64 (t115)) != 0) = false := bne_eq_false_iff_eq.mpr c42
                            clear c42
                            replace H := Option.bind_eq_some_iff.mp H
                            obtain ⟨t118, A430, H⟩ := H
                            replace H : ((fix_Add.f a3 a2).bind fun t119 => (some (t118 == t119))) = some r := H
                            have A43 := Aside0.mk A430
                            clear A430
                            replace H := Option.bind_eq_some_iff.mp H
                            obtain ⟨t119, A440, H⟩ := H
                            replace H : (some (t118 == t119)) = some r := H
                            have A44 := Aside0.mk A440
                            clear A440
                            obtain rfl := Option.some.inj H
                            go_wp2_with (first | ((with_reducible refine gate_callee (f := 22) rfl ?_); refine goesL_ (some 78) rfl rfl Try.func22 (by kernel_rfl) rfl #[.int .i32 a2, .int .i32 a3] rfl (by (try simp only [List.map_toArray, List.map_cons, List.map_nil]); first | done | rfl | (simp only [List.length_drop, List.length_take]; rfl)) ?_; (with_reducible refine (fix_Mul31.calls a2 a3 t115 _ A34.out).mono ?_); rintro e w' ⟨rfl, ⟨nd, rfl⟩⟩; refine ⟨_, rfl, ?_⟩) | (go_at_call 22; (with_reducible refine (fix_Mul31.calls a2 a3 t116 _ A38.out).mono ?_); rintro e w' ⟨rfl, ⟨nd, rfl⟩⟩) | (go_at_call 22; (with_reducible refine (fix_Mul31.calls a3 a2 t117 _ A39.out).mono ?_); rintro e w' ⟨rfl, ⟨nd, rfl⟩⟩) | (go_at_call 23; (with_reducible refine (fix_Add.calls a2 a3 t118 _ A43.out).mono ?_); rintro e w' ⟨rfl, ⟨nd, rfl⟩⟩) | (go_at_call 23; (with_reducible refine (fix_Add.calls a3 a2 t119 _ A44.out).mono ?_); rintro e w' ⟨rfl, ⟨nd, rfl⟩⟩))
                            go_ret
                            exact ⟨by first | rfl | (simp [errW_none, errW_some] <;> rfl) | (simp only [← hji35]; first | rfl | (simp [errW_none, errW_some] <;> rfl)) | (simp [*, errW_none, errW_some] <;> rfl), by repeat (first | (with_reducible first | exact HB.out | apply below_alloc | apply pw_below_drewN | apply below_drew1) | exact HB.out)⟩
                          · rw [if_neg c42] at H
                            have c42b0 : ((wrap64 (t115)) == 0) = false := beq_eq_false_iff_ne.mpr c42
                            have c42b1 : ((wrap64 (t115)) != 0) = true := bne_iff_ne.mpr c42
                            obtain rfl := Option.some.inj H
                            go_wp2_with (first | ((with_reducible refine gate_callee (f := 22) rfl ?_); refine goesL_ (some 78) rfl rfl Try.func22 (by kernel_rfl) rfl #[.int .i32 a2, .int .i32 a3] rfl (by (try simp only [List.map_toArray, List.map_cons, List.map_nil]); first | done | rfl | (simp only [List.length_drop, List.length_take]; rfl)) ?_; (with_reducible refine (fix_Mul31.calls a2 a3 t115 _ A34.out).mono ?_); rintro e w' ⟨rfl, ⟨nd, rfl⟩⟩; refine ⟨_, rfl, ?_⟩) | (go_at_call 22; (with_reducible refine (fix_Mul31.calls a2 a3 t116 _ A38.out).mono ?_); rintro e w' ⟨rfl, ⟨nd, rfl⟩⟩) | (go_at_call 22; (with_reducible refine (fix_Mul31.calls a3 a2 t117 _ A39.out).mono ?_); rintro e w' ⟨rfl, ⟨nd, rfl⟩⟩))
                            go_ret
                            exact ⟨by first | rfl | (simp [errW_none, errW_some] <;> rfl) | (simp only [← hji35]; first | rfl | (simp [errW_none, errW_some] <;> rfl)) | (simp [*, errW_none, errW_some] <;> rfl), by repeat (first | (with_reducible first | exact HB.out | apply below_alloc | apply pw_below_drewN | apply below_drew1) | exact HB.out)⟩
                        · rw [if_neg c41] at H
                          have c41b0 : ((wrap64 (a3)) == 0) = false := beq_eq_false_iff_ne.mpr c41
                          have c41b1 : ((wrap64 (a3)) != 0) = true := bne_iff_ne.mpr c41
                          replace H := Option.bind_eq_some_iff.mp H
                          obtain ⟨t120, A450, H⟩ := H
                          replace H : ((fix_Add.f a3 a2).bind fun t121 => (some (t120 == t121))) = some r := H
                          have A45 := Aside0.mk A450
                          clear A450
                          replace H := Option.bind_eq_some_iff.mp H
                          obtain ⟨t121, A460, H⟩ := H
                          replace H : (some (t120 == t121)) = some r := H
                          have A46 := Aside0.mk A460
                          clear A460
                          obtain rfl := Option.some.inj H
                          go_wp2_with (first | ((with_reducible refine gate_callee (f := 22) rfl ?_); refine goesL_ (some 78) rfl rfl Try.func22 (by kernel_rfl) rfl #[.int .i32 a2, .int .i32 a3] rfl (by (try simp only [List.map_toArray, List.map_cons, List.map_nil]); first | done | rfl | (simp only [List.length_drop, List.length_take]; rfl)) ?_; (with_reducible refine (fix_Mul31.calls a2 a3 t115 _ A34.out).mono ?_); rintro e w' ⟨rfl, ⟨nd, rfl⟩⟩; refine ⟨_, rfl, ?_⟩) | (go_at_call 22; (with_reducible refine (fix_Mul31.calls a2 a3 t116 _ A38.out).mono ?_); rintro e w' ⟨rfl, ⟨nd, rfl⟩⟩) | (go_at_call 22; (with_reducible refine (fix_Mul31.calls a3 a2 t117 _ A39.out).mono ?_); rintro e w' ⟨rfl, ⟨nd, rfl⟩⟩) | (go_at_call 23; (with_reducible refine (fix_Add.calls a2 a3 t120 _ A45.out).mono ?_); rintro e w' ⟨rfl, ⟨nd, rfl⟩⟩) | (go_at_call 23; (with_reducible refine (fix_Add.calls a3 a2 t121 _ A46.out).mono ?_); rintro e w' ⟨rfl, ⟨nd, rfl⟩⟩))
                          go_ret
                          exact ⟨by first | rfl | (simp [errW_none, errW_some] <;> rfl) | (simp only [← hji35]; first | rfl | (simp [errW_none, errW_some] <;> rfl)) | (simp [*, errW_none, errW_some] <;> rfl), by repeat (first | (with_reducible first | exact HB.out | apply below_alloc | apply pw_below_drewN | apply below_drew1) | exact HB.out)⟩
                      · rw [if_neg c40] at H
                        have c40b0 : (t116 == t117) = false := beq_eq_false_iff_ne.mpr c40
                        have c40b1 : (t116 != t117) = true := bne_iff_ne.mpr c40
                        obtain rfl := Option.some.inj H
                        go_wp2_with (first | ((with_reducible refine gate_callee (f := 22) rfl ?_); refine goesL_ (some 78) rfl rfl Try.func22 (by kernel_rfl) rfl #[.int .i32 a2, .int .i32 a3] rfl (by (try simp only [List.map_toArray, List.map_cons, List.map_nil]); first | done | rfl | (simp only [List.length_drop, List.length_take]; rfl)) ?_; (with_reducible refine (fix_Mul31.calls a2 a3 t115 _ A34.out).mono ?_); rintro e w' ⟨rfl, ⟨nd, rfl⟩⟩; refine ⟨_, rfl, ?_⟩) | (go_at_call 22; (with_reducible refine (fix_Mul31.calls a2 a3 t116 _ A38.out).mono ?_); rintro e w' ⟨rfl, ⟨nd, rfl⟩⟩) | (go_at_call 22; (with_reducible refine (fix_Mul31.calls a3 a2 t117 _ A39.out).mono ?_); rintro e w' ⟨rfl, ⟨nd, rfl⟩⟩))
                        go_ret
                        exact ⟨by first | rfl | (simp [errW_none, errW_some] <;> rfl) | (simp only [← hji35]; first | rfl | (simp [errW_none, errW_some] <;> rfl)) | (simp [*, errW_none, errW_some] <;> rfl), by repeat (first | (with_reducible first | exact HB.out | apply below_alloc | apply pw_below_drewN | apply below_drew1) | exact HB.out)⟩
                    · rw [if_neg c37] at H
                      have c37b0 : decide ((wrap64 (-(ji35))) ≤ (wrap64 (t115))) = false := decide_eq_false c37
                      clear c37
                      obtain rfl := Option.some.inj H
                      go_wp2_with (first | ((with_reducible refine gate_callee (f := 22) rfl ?_); refine goesL_ (some 78) rfl rfl Try.func22 (by kernel_rfl) rfl #[.int .i32 a2, .int .i32 a3] rfl (by (try simp only [List.map_toArray, List.map_cons, List.map_nil]); first | done | rfl | (simp only [List.length_drop, List.length_take]; rfl)) ?_; (with_reducible refine (fix_Mul31.calls a2 a3 t115 _ A34.out).mono ?_); rintro e w' ⟨rfl, ⟨nd, rfl⟩⟩; refine ⟨_, rfl, ?_⟩))
                      go_ret
                      exact ⟨by first | rfl | (simp [errW_none, errW_some] <;> rfl) | (simp only [← hji35]; first | rfl | (simp [errW_none, errW_some] <;> rfl)) | (simp [*, errW_none, errW_some] <;> rfl), by repeat (first | (with_reducible first | exact HB.out | apply below_alloc | apply pw_below_drewN | apply below_drew1) | exact HB.out)⟩
                  · rw [if_neg c36] at H
                    have c36b0 : decide ((wrap64 (t115)) ≤ (ji35)) = false := decide_eq_false c36
                    clear c36
                    obtain rfl := Option.some.inj H
                    go_wp2_with (first | ((with_reducible refine gate_callee (f := 22) rfl ?_); refine goesL_ (some 78) rfl rfl Try.func22 (by kernel_rfl) rfl #[.int .i32 a2, .int .i32 a3] rfl (by (try simp only [List.map_toArray, List.map_cons, List.map_nil]); first | done | rfl | (simp only [List.length_drop, List.length_take]; rfl)) ?_; (with_reducible refine (fix_Mul31.calls a2 a3 t115 _ A34.out).mono ?_); rintro e w' ⟨rfl, ⟨nd, rfl⟩⟩; refine ⟨_, rfl, ?_⟩))
                    go_ret
                    exact ⟨by first | rfl | (simp [errW_none, errW_some] <;> rfl) | (simp only [← hji35]; first | rfl | (simp [errW_none, errW_some] <;> rfl)) | (simp [*, errW_none, errW_some] <;> rfl), by repeat (first | (with_reducible first | exact HB.out | apply below_alloc | apply pw_below_drewN | apply below_drew1) | exact HB.out)⟩
  · replace c6 := Bool.eq_false_iff.mpr c6
    subst c6
    have H1 : (some false) = some r := by rw [if_neg (show ¬ (false = true) by decide)] at H; exact H
    clear H
    have H := H1
    clear H1
    obtain rfl := Option.some.inj H
    go_enter Try.func4, Try.ntmps4
    go_wp2_with (first | ((with_reducible refine gate_callee (f := 19) rfl ?_); refine goesL_ (some 16) rfl rfl Try.func19 (by kernel_rfl) rfl #[] rfl (by (try simp only [List.map_toArray, List.map_cons, List.map_nil]); first | done | rfl | (simp only [List.length_drop, List.length_take]; rfl)) ?_; (with_reducible refine (psalterylaw01_alive.calls  false _ A5.out).mono ?_); rintro e w' ⟨rfl, ⟨nd, rfl⟩⟩; refine ⟨_, rfl, ?_⟩))
    go_ret
    exact ⟨by first | rfl | (simp [errW_none, errW_some] <;> rfl) | (simp [*, errW_none, errW_some] <;> rfl), by repeat (first | (with_reducible first | exact HB.out | apply below_alloc | apply pw_below_drewN | apply below_drew1) | exact HB.out)⟩

/-- THE ONE PURE STATEMENT of psalterylaw01_FixNear: yours. -/
def psalterylaw01_FixNear.Pure : Prop := ∀ (a0 : Int) (a1 : Int) (a2 : Int) (a3 : Int), (Lit.int .i64 a0).wf = true → (Lit.int .i64 a1).wf = true → (Lit.int .i32 a2).wf = true → (Lit.int .i32 a3).wf = true → ∃ k, psalterylaw01_FixNear.f k a0 a1 a2 a3 = some true
theorem psalterylaw01_FixNear.walk (P : psalterylaw01_FixNear.Pure) (a0 : Int) (a1 : Int) (a2 : Int) (a3 : Int) (w : World) (w0 : (Lit.int .i64 a0).wf = true) (w1 : (Lit.int .i64 a1).wf = true) (w2 : (Lit.int .i32 a2).wf = true) (w3 : (Lit.int .i32 a3).wf = true) :
    Calls Try.prog 4 #[.int .i64 a0, .int .i64 a1, .int .i32 a2, .int .i32 a3] w fun e w' => e = .returned (.bool true) ∧ Below w.heap.size w w' := by
  obtain ⟨k, h⟩ := P a0 a1 a2 a3 w0 w1 w2 w3
  refine (psalterylaw01_FixNear.calls k a0 a1 a2 a3 true w h).mono ?_
  rintro e w' ⟨rfl, hd⟩
  exact ⟨rfl, hd⟩

/-! ### fix_Sat16: function 24 -/
def fix_Sat16.f (a0 : Int) : Option (Int) := (fix_within_int64.f a0 (-32768) 32767).bind fun t122 => (some (IntKind.i16.wrap (t122)))
set_option maxHeartbeats 8000000 in
set_option maxRecDepth 100000 in
theorem fix_Sat16.calls (a0 : Int) (r : Int) (w : World) (h : fix_Sat16.f a0 = some r) :
    Calls Try.prog 24 #[.int .i64 a0] w fun e w' => e = .returned (.int .i16 r) ∧ Drawn0 w w' := by
  have H : ((fix_within_int64.f a0 (-32768) 32767).bind fun t122 => (some (IntKind.i16.wrap (t122)))) = some r := h
  clear h
  replace H := Option.bind_eq_some_iff.mp H
  obtain ⟨t122, A20, H⟩ := H
  replace H : (some (IntKind.i16.wrap (t122))) = some r := H
  have A2 := Aside0.mk A20
  clear A20
  obtain rfl := Option.some.inj H
  go_enter Try.func24, Try.ntmps24
  go_wp2_with (first | ((with_reducible refine gate_callee (f := 63) rfl ?_); refine goesL_ (some 4) rfl rfl Try.func63 (by kernel_rfl) rfl #[.int .i64 a0, .int .i64 (-32768), .int .i64 32767] rfl (by (try simp only [List.map_toArray, List.map_cons, List.map_nil]); first | done | rfl | (simp only [List.length_drop, List.length_take]; rfl)) ?_; (with_reducible refine (fix_within_int64.calls a0 (-32768) 32767 t122 _ A2.out).mono ?_); rintro e w' ⟨rfl, ⟨nd, rfl⟩⟩; refine ⟨_, rfl, ?_⟩))
  go_ret
  exact ⟨by first | rfl | (simp; done) | (simp [*]; done), by repeat (first | exact Drawn0.refl _ | apply Drawn0.step)⟩

/-! ### fix_Clip: function 26 -/
def fix_Clip.f (a0 : Int) (a1 : Int) (a2 : Int) : Option (Int) := (fix_within_int64.f a0 a1 a2).bind fun t123 => (some t123)
set_option maxHeartbeats 8000000 in
set_option maxRecDepth 100000 in
theorem fix_Clip.calls (a0 : Int) (a1 : Int) (a2 : Int) (r : Int) (w : World) (h : fix_Clip.f a0 a1 a2 = some r) :
    Calls Try.prog 26 #[.int .i64 a0, .int .i64 a1, .int .i64 a2] w fun e w' => e = .returned (.int .i64 r) ∧ Drawn0 w w' := by
  have H : ((fix_within_int64.f a0 a1 a2).bind fun t123 => (some t123)) = some r := h
  clear h
  replace H := Option.bind_eq_some_iff.mp H
  obtain ⟨t123, A40, H⟩ := H
  replace H : (some t123) = some r := H
  have A4 := Aside0.mk A40
  clear A40
  obtain rfl := Option.some.inj H
  go_enter Try.func26, Try.ntmps26
  go_wp2_with (first | ((with_reducible refine gate_callee (f := 63) rfl ?_); refine goesL_ (some 10) rfl rfl Try.func63 (by kernel_rfl) rfl #[.int .i64 a0, .int .i64 a1, .int .i64 a2] rfl (by (try simp only [List.map_toArray, List.map_cons, List.map_nil]); first | done | rfl | (simp only [List.length_drop, List.length_take]; rfl)) ?_; (with_reducible refine (fix_within_int64.calls a0 a1 a2 t123 _ A4.out).mono ?_); rintro e w' ⟨rfl, ⟨nd, rfl⟩⟩; refine ⟨_, rfl, ?_⟩))
  go_ret
  exact ⟨by first | rfl | (simp; done) | (simp [*]; done), by repeat (first | exact Drawn0.refl _ | apply Drawn0.step)⟩

end Go.Proofs.Ytnaeondfkkiimaa.PFix
