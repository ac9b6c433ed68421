/- Contracts of the functions that the law Pcm reaches: each Go function as a Lean function, and that the Go text comes to it. Written by programs (wip/tools), out of the program's own loaded form. -/
import Derived.Test.YtgmgdbcfgbgnlaaPPcmx0
import Derived.WalkSpells
import Derived.StillTailTactics
import Derived.Lib.SliceRun
import Derived.Laws.CopyOwn
namespace Go.Proofs.Ytgmgdbcfgbgnlaa.PPcm
open Go.RowKit Go.Proofs.YtgmgdbcfgbgnlaaW.PrintWords Go.Proofs.YtgmgdbcfgbgnlaaW.PrintLast Go.Proofs.YtgmgdbcfgbgnlaaW.PrintMore
attribute [local go_sem] max2_int min2_int max_two min_two max_three min_three max_four min_four   -- for this text's walks alone
set_option linter.unusedVariables false
set_option linter.unusedSimpArgs false

/-! ### psalteryref04_Same: function 19 -/
def psalteryref04_Same.l0 : Nat → List Int → List Int → Int → Option (Bool)
  | 0, _, _, _ => none
  | k + 1, x0, x1, x5 => if x5 < (x0.length : Int) then (if 0 ≤ x5 then (if x5 < (x1.length : Int) then (if (rd x0 x5) = (rd x1 x5) then (psalteryref04_Same.l0 k x0 x1 (wrap64 (x5 + 1))) else (some false)) else (none)) else (none)) else (some true)
def psalteryref04_Same.f (k : Nat) (l0 : List Int) (l1 : List Int) : Option (Bool) := if (l0.length : Int) = (l1.length : Int) then (psalteryref04_Same.l0 k l0 l1 0) else (some false)
theorem psalteryref04_Same.mono_l : ∀ k, (∀ y0 y1 y2, LeO (psalteryref04_Same.l0 k y0 y1 y2) (psalteryref04_Same.l0 (k + 1) y0 y1 y2))
  | 0 => fun _ _ _ r h => by simp [psalteryref04_Same.l0] at h
  | k + 1 => by
    have ih0 := psalteryref04_Same.mono_l k
    · intro y0 y1 y2
      unfold psalteryref04_Same.l0
      repeat' first
      | (with_reducible exact ih0 _ _ _)
      | (with_reducible exact LeO.refl _)
      | (with_reducible exact LeO.none _)
      | (with_reducible refine LeO.ite ?_ ?_)
      | (with_reducible refine LeO.bind ?_ (fun _ => ?_))
      | exact ih0 _ _ _
      | exact LeO.none _
      | refine LeO.ite ?_ ?_
      | refine LeO.bind ?_ (fun _ => ?_)
theorem psalteryref04_Same.mono : ∀ a0 a1 k, LeO (psalteryref04_Same.f k a0 a1) (psalteryref04_Same.f (k + 1) a0 a1) := by
  intro a0 a1 k
  have ih0 := psalteryref04_Same.mono_l k
  unfold psalteryref04_Same.f
  repeat' first
      | (with_reducible exact ih0 _ _ _)
      | (with_reducible exact LeO.refl _)
      | (with_reducible exact LeO.none _)
      | (with_reducible refine LeO.ite ?_ ?_)
      | (with_reducible refine LeO.bind ?_ (fun _ => ?_))
      | exact ih0 _ _ _
      | exact LeO.none _
      | refine LeO.ite ?_ ?_
      | refine LeO.bind ?_ (fun _ => ?_)
set_option maxHeartbeats 8000000 in
set_option maxRecDepth 100000 in
theorem psalteryref04_Same.calls (k : Nat) (A0 : Option Addr) (c0 : Nat) (l0 : List Int) (A1 : Option Addr) (c1 : Nat) (l1 : List Int) (r : Bool) (w : World) (hr0 : Kd.C (Kd.int .i16) w A0 l0.length l0) (hc0 : l0.length ≤ c0) (hr1 : Kd.C (Kd.int .i16) w A1 l1.length l1) (hc1 : l1.length ≤ c1) (h : psalteryref04_Same.f k l0 l1 = some r) :
    Calls Try.prog 19 #[.slice A0 l0.length c0, .slice A1 l1.length c1] w fun e w' => e = .returned (.bool r) ∧ Drawn0 w w' := by
  have HR0 := Aside0.mk hr0
  have HC0 := Aside0.mk hc0
  clear hr0 hc0
  have HR1 := Aside0.mk hr1
  have HC1 := Aside0.mk hc1
  clear hr1 hc1
  have H : (if (l0.length : Int) = (l1.length : Int) then (psalteryref04_Same.l0 k l0 l1 0) else (some false)) = some r := h
  clear h
  by_cases c3 : (l0.length : Int) = (l1.length : Int)
  · rw [if_pos c3] at H
    have c3b0 : ((l0.length : Int) == (l1.length : Int)) = true := beq_iff_eq.mpr c3
    have c3b1 : ((l0.length : Int) != (l1.length : Int)) = false := bne_eq_false_iff_eq.mpr c3
    have c3b2 : (l0.length == l1.length) = true := by first | simpa using c3 | (simp at c3 ⊢; omega)
    clear c3
    have H' := Aside0.mk H
    clear H
    go_enter Try.func19, Try.ntmps19
    go_wp2
    repeat (go_quiet (fail); try go_wp2)
    go_loopg [5] k (fun kq v5 w' => ∃ (x5_1 : Int), v5 = .int .i64 x5_1 ∧ Aside0 (psalteryref04_Same.l0 kq l0 l1 x5_1 = some r) ∧ Aside0 (kq ≤ k) ∧ Drawn0 w w')
    case atStart => exact ⟨(0), (by first | rfl | (simp; done) | (simp [*]; done)), H', ⟨Nat.le_refl _⟩, by repeat (first | exact Drawn0.refl _ | apply Drawn0.step)⟩
    case round =>
      clear H'
      try clear c1
      try clear p2
      try clear c3
      try clear c3b0
      try clear c3b1
      try clear c3b2
      obtain ⟨x5_1, rfl, HA, HK1, ⟨m1, rfl⟩⟩ := hrel
      cases gk with
      | zero => exact absurd HA.out (by simp [psalteryref04_Same.l0])
      | succ k1 =>
        have H := HA.out
        clear HA
        simp only [psalteryref04_Same.l0] at H
        by_cases c4 : x5_1 < (l0.length : Int)
        · rw [if_pos c4] at H
          have c4b0 : decide (x5_1 < (l0.length : Int)) = true := decide_eq_true c4
          clear c4
          by_cases c5 : 0 ≤ x5_1
          · rw [if_pos c5] at H
            have c5b0 : decide (0 ≤ x5_1) = true := decide_eq_true c5
            clear c5
            by_cases c6 : x5_1 < (l1.length : Int)
            · rw [if_pos c6] at H
              have c6b0 : decide (x5_1 < (l1.length : Int)) = true := decide_eq_true c6
              clear c6
              by_cases c7 : (rd l0 x5_1) = (rd l1 x5_1)
              · rw [if_pos c7] at H
                have c7b0 : ((rd l0 x5_1) == (rd l1 x5_1)) = true := beq_iff_eq.mpr c7
                have c7b1 : ((rd l0 x5_1) != (rd l1 x5_1)) = false := bne_eq_false_iff_eq.mpr c7
                clear c7
                have H' := Aside0.mk H
                clear H
                have p101 : 0 ≤ (x5_1 : Int) := of_decide_eq_true (by first | (with_reducible assumption) | assumption)
                have q101 : x5_1 < (l0.length : Int) := of_decide_eq_true (by first | (with_reducible assumption) | assumption)
                obtain ⟨ad101, e101, hx101_0⟩ := Kd.at_int HR0.out x5_1 p101 q101
                cases e101
                replace p101 := eq_true p101
                replace q101 := eq_true q101
                have p102 : 0 ≤ (x5_1 : Int) := of_decide_eq_true (by first | (with_reducible assumption) | assumption)
                have q102 : x5_1 < (l1.length : Int) := of_decide_eq_true (by first | (with_reducible assumption) | assumption)
                obtain ⟨ad102, e102, hx102_0⟩ := Kd.at_int HR1.out x5_1 p102 q102
                cases e102
                replace p102 := eq_true p102
                replace q102 := eq_true q102
                go_wp2
                repeat (go_quiet (fail); try go_wp2)
                go_roundg k1
                case measure => have := HK1.out; omega
                case rel => exact ⟨(wrap64 (x5_1 + 1)), (by first | rfl | (simp; done) | (simp [*]; done)), H', ⟨by have := HK1.out; omega⟩, by repeat (first | exact Drawn0.refl _ | apply Drawn0.step)⟩
              · rw [if_neg c7] at H
                have c7b0 : ((rd l0 x5_1) == (rd l1 x5_1)) = false := beq_eq_false_iff_ne.mpr c7
                have c7b1 : ((rd l0 x5_1) != (rd l1 x5_1)) = true := bne_iff_ne.mpr c7
                obtain rfl := Option.some.inj H
                have p101 : 0 ≤ (x5_1 : Int) := of_decide_eq_true (by first | (with_reducible assumption) | assumption)
                have q101 : x5_1 < (l0.length : Int) := of_decide_eq_true (by first | (with_reducible assumption) | assumption)
                obtain ⟨ad101, e101, hx101_0⟩ := Kd.at_int HR0.out x5_1 p101 q101
                cases e101
                replace p101 := eq_true p101
                replace q101 := eq_true q101
                have p102 : 0 ≤ (x5_1 : Int) := of_decide_eq_true (by first | (with_reducible assumption) | assumption)
                have q102 : x5_1 < (l1.length : Int) := of_decide_eq_true (by first | (with_reducible assumption) | assumption)
                obtain ⟨ad102, e102, hx102_0⟩ := Kd.at_int HR1.out x5_1 p102 q102
                cases e102
                replace p102 := eq_true p102
                replace q102 := eq_true q102
                go_wp2
                repeat (go_quiet (fail); try go_wp2)
                go_ret
                exact ⟨by first | rfl | (simp; done) | (simp [*]; done), by repeat (first | exact Drawn0.refl _ | apply Drawn0.step)⟩
            · rw [if_neg c6] at H
              exact absurd H (by simp)
          · rw [if_neg c5] at H
            exact absurd H (by simp)
        · rw [if_neg c4] at H
          have c4b0 : decide (x5_1 < (l0.length : Int)) = false := decide_eq_false c4
          clear c4
          obtain rfl := Option.some.inj H
          go_wp2
          repeat (go_quiet (fail); try go_wp2)
          go_ret
          exact ⟨by first | rfl | (simp; done) | (simp [*]; done), by repeat (first | exact Drawn0.refl _ | apply Drawn0.step)⟩
  · rw [if_neg c3] at H
    have c3b0 : ((l0.length : Int) == (l1.length : Int)) = false := beq_eq_false_iff_ne.mpr c3
    have c3b1 : ((l0.length : Int) != (l1.length : Int)) = true := bne_iff_ne.mpr c3
    have c3b2 : (l0.length == l1.length) = false := by first | simpa using c3 | (simp at c3 ⊢; omega)
    obtain rfl := Option.some.inj H
    go_enter Try.func19, Try.ntmps19
    go_wp2
    repeat (go_quiet (fail); try go_wp2)
    go_ret
    exact ⟨by first | rfl | (simp; done) | (simp [*]; done), by repeat (first | exact Drawn0.refl _ | apply Drawn0.step)⟩

/-! ### pcm_Part: function 37 -/
mutual
def pcm_Part.j0 : Nat → List Int → Int → Bool → Option ((List (List Int)) × Int)
  | 0, _, _, _ => none
  | k + 1, x0, x1, x21 => if x21 = true then (some (([] : List (List Int)), 1)) else (if 0 ≤ x1 then (if (x1 : Int).toNat ≤ 11728124029610 then (pcm_Part.l0 k x1 (List.replicate (x1 : Int).toNat []) x0 (x0.length : Int) 0) else (none)) else (none))
def pcm_Part.l0 : Nat → Int → List (List Int) → List Int → Int → Int → Option ((List (List Int)) × Int)
  | 0, _, _, _, _, _ => none
  | k + 1, x1, x6, x24, x25, x26 => if x26 < x25 then (if 0 ≤ x26 then (if x26 < (x24.length : Int) then (if x1 = 0 then (none) else (if 0 ≤ (Int.tmod x26 x1) then (if (Int.tmod x26 x1) < (x6.length : Int) then (if (rd_L1 x6 (Int.tmod x26 x1)).length < 70368744177664 then (pcm_Part.l0 k x1 (x6.set ((Int.tmod x26 x1) : Int).toNat ((rd_L1 x6 (Int.tmod x26 x1)) ++ [rd x24 x26])) x24 x25 (wrap64 (x26 + 1))) else (none)) else (none)) else (none))) else (none)) else (none)) else (some (x6, 0))
end
def pcm_Part.f (k : Nat) (l0 : List Int) (a1 : Int) : Option ((List (List Int)) × Int) := if a1 < 1 then (pcm_Part.j0 k l0 a1 true) else (if a1 > 2 then (pcm_Part.j0 k l0 a1 true) else (if a1 = 0 then (none) else (pcm_Part.j0 k l0 a1 (((l0.length : Int) % a1) != 0))))
theorem pcm_Part.mono_l : ∀ k, (∀ y0 y1 y2, LeO (pcm_Part.j0 k y0 y1 y2) (pcm_Part.j0 (k + 1) y0 y1 y2)) ∧ (∀ y0 y1 y2 y3 y4, LeO (pcm_Part.l0 k y0 y1 y2 y3 y4) (pcm_Part.l0 (k + 1) y0 y1 y2 y3 y4))
  | 0 => ⟨fun _ _ _ r h => by simp [pcm_Part.j0] at h, fun _ _ _ _ _ r h => by simp [pcm_Part.l0] at h⟩
  | k + 1 => by
    obtain ⟨ih0, ih1⟩ := pcm_Part.mono_l k
    refine ⟨?_, ?_⟩
    · intro y0 y1 y2
      unfold pcm_Part.j0
      repeat' first
      | (with_reducible exact ih0 _ _ _)
      | (with_reducible exact ih1 _ _ _ _ _)
      | (with_reducible exact LeO.refl _)
      | (with_reducible exact LeO.none _)
      | (with_reducible refine LeO.ite ?_ ?_)
      | (with_reducible refine LeO.bind ?_ (fun _ => ?_))
      | exact ih0 _ _ _
      | exact ih1 _ _ _ _ _
      | exact LeO.none _
      | refine LeO.ite ?_ ?_
      | refine LeO.bind ?_ (fun _ => ?_)
    · intro y0 y1 y2 y3 y4
      unfold pcm_Part.l0
      repeat' first
      | (with_reducible exact ih0 _ _ _)
      | (with_reducible exact ih1 _ _ _ _ _)
      | (with_reducible exact LeO.refl _)
      | (with_reducible exact LeO.none _)
      | (with_reducible refine LeO.ite ?_ ?_)
      | (with_reducible refine LeO.bind ?_ (fun _ => ?_))
      | exact ih0 _ _ _
      | exact ih1 _ _ _ _ _
      | exact LeO.none _
      | refine LeO.ite ?_ ?_
      | refine LeO.bind ?_ (fun _ => ?_)
theorem pcm_Part.mono : ∀ a0 a1 k, LeO (pcm_Part.f k a0 a1) (pcm_Part.f (k + 1) a0 a1) := by
  intro a0 a1 k
  obtain ⟨ih0, ih1⟩ := pcm_Part.mono_l k
  unfold pcm_Part.f
  repeat' first
      | (with_reducible exact ih0 _ _ _)
      | (with_reducible exact ih1 _ _ _ _ _)
      | (with_reducible exact LeO.refl _)
      | (with_reducible exact LeO.none _)
      | (with_reducible refine LeO.ite ?_ ?_)
      | (with_reducible refine LeO.bind ?_ (fun _ => ?_))
      | exact ih0 _ _ _
      | exact ih1 _ _ _ _ _
      | exact LeO.none _
      | refine LeO.ite ?_ ?_
      | refine LeO.bind ?_ (fun _ => ?_)
def pcm_Part.T7 : Bool × List (List Nat × List Nat) := (true, [([], []), ([], []), ([], []), ([1, 2], [1, 2]), ([], []), ([], []), ([], []), ([5, 6], [5, 6]), ([4, 7], [4, 7]), ([8], [8]), ([], []), ([10], [10]), ([9, 11], [9, 11]), ([0, 3, 0, 1, 2, 3, 4, 5, 6, 7, 8, 9, 10, 11, 12], [0, 3]), ([13, 12, 12, 0, 1, 2, 3, 4, 5, 6, 7, 8, 9, 10, 11, 12], [12, 13])])
def pcm_Part.B7 : List Nat := [0, 0, 0, 6, 0, 0, 0, 96, 240, 496, 0, 1024, 4080, 8191, 16383]
theorem pcm_Part.tab7 : rtab .any (opsOf Try.f37 7) = pcm_Part.T7 := by kernel_rfl
theorem pcm_Part.bits7 : waitsOk pcm_Part.T7.2 pcm_Part.B7 = true := by kernel_rfl
set_option maxHeartbeats 8000000 in
set_option maxRecDepth 100000 in
theorem pcm_Part.calls (k : Nat) (A0 : Option Addr) (c0 : Nat) (l0 : List Int) (a1 : Int) (r1 : List (List Int)) (r2 : Int) (w : World) (hr0 : Kd.C (Kd.int .i16) w A0 l0.length l0) (hc0 : l0.length ≤ c0) (h : pcm_Part.f k l0 a1 = some (r1, r2)) :
    Calls Try.prog 37 #[.slice A0 l0.length c0, .int .i64 a1] w fun e w' => ∃ v0_ : Value, e = .returned (.tuple #[v0_, .int .i64 r2]) ∧ Kd.S (Kd.slice 33 (Kd.int .i16)) 29 w' w.heap.size (fun _ => True) v0_ r1 ∧ Below w.heap.size w w' := by
  have HR0 := Aside0.mk hr0
  have HC0 := Aside0.mk hc0
  clear hr0 hc0
  have HB := Aside0.mk (Below.refl w.heap.size w)
  have H : (if a1 < 1 then (pcm_Part.j0 k l0 a1 true) else (if a1 > 2 then (pcm_Part.j0 k l0 a1 true) else (if a1 = 0 then (none) else (pcm_Part.j0 k l0 a1 (((l0.length : Int) % a1) != 0))))) = some (r1, r2) := h
  clear h
  have HC3 := Aside0.mk H
  clear H
  go_enter Try.func37, Try.ntmps37
  go_upto_region 1 with (fail)
  go_cut [21] (fun v21 wc => ∃ (kq : Nat) (x21_2 : Bool), v21 = .bool x21_2 ∧ Aside0 (pcm_Part.j0 kq l0 a1 x21_2 = some (r1, r2)) ∧ Aside0 (kq ≤ k) ∧ Aside0 (Below w.heap.size w wc))
  case first =>
    have H := HC3.out
    clear HC3
    by_cases c4 : a1 < 1
    · rw [if_pos c4] at H
      have c4b0 : decide (a1 < 1) = true := decide_eq_true c4
      clear c4
      (first | rw [c4b0] | (simp only [i64_w, i32_w]; rw [c4b0]) | skip)
      have H' := Aside0.mk H
      clear H
      go_wp2
      go_meet
      case rel => exact ⟨_, (true), (by first | rfl | (simp; done) | (simp [*]; done)), H', ⟨by first | omega | exact Nat.le_refl _⟩, ⟨by repeat (first | (with_reducible first | exact HB.out | apply below_alloc | apply pw_below_drewN | apply below_drew1) | exact HB.out)⟩⟩
    · rw [if_neg c4] at H
      have c4b0 : decide (a1 < 1) = false := decide_eq_false c4
      clear c4
      (first | rw [c4b0] | (simp only [i64_w, i32_w]; rw [c4b0]) | skip)
      by_cases c5 : a1 > 2
      · rw [if_pos c5] at H
        have c5b0 : decide (2 < a1) = true := decide_eq_true c5
        clear c5
        have H' := Aside0.mk H
        clear H
        go_wp2
        go_meet
        case rel => exact ⟨_, (true), (by first | rfl | (simp; done) | (simp [*]; done)), H', ⟨by first | omega | exact Nat.le_refl _⟩, ⟨by repeat (first | (with_reducible first | exact HB.out | apply below_alloc | apply pw_below_drewN | apply below_drew1) | exact HB.out)⟩⟩
      · rw [if_neg c5] at H
        have c5b0 : decide (2 < a1) = false := decide_eq_false c5
        clear c5
        by_cases c6 : a1 = 0
        · rw [if_pos c6] at H
          exact absurd H (by simp)
        · rw [if_neg c6] at H
          have c6b0 : (a1 == 0) = false := beq_eq_false_iff_ne.mpr c6
          have c6b1 : (a1 != 0) = true := bne_iff_ne.mpr c6
          have H' := Aside0.mk H
          clear H
          go_wp2
          go_meet
          case rel => exact ⟨_, ((((l0.length : Int) % a1) != 0)), (by first | rfl | (simp; done) | (simp [*]; done)), H', ⟨by first | omega | exact Nat.le_refl _⟩, ⟨by repeat (first | (with_reducible first | exact HB.out | apply below_alloc | apply pw_below_drewN | apply below_drew1) | exact HB.out)⟩⟩
  case rest =>
    clear HC3
    try clear p2
    try clear c3
    try clear c4
    try clear c4b0
    try clear c5
    try clear c5b0
    try clear c6
    try clear c6b0
    try clear c6b1
    obtain ⟨kq, x21_2, rfl, HA, HJ2, HB⟩ := hcut
    cases kq with
    | zero => exact absurd HA.out (by simp [pcm_Part.j0])
    | succ kj2 =>
      have H := HA.out
      clear HA
      simp only [pcm_Part.j0] at H
      by_cases c7 : x21_2 = true
      · subst c7
        have H1 : (some (([] : List (List Int)), 1)) = some (r1, r2) := by rw [if_pos rfl] at H; exact H
        clear H
        have H := H1
        clear H1
        simp only [Option.some.injEq, Prod.mk.injEq] at H
        obtain ⟨rfl, rfl⟩ := H
        go_wp2
        go_ret2
        exact ⟨_, by first | rfl | (simp [errW_none, errW_some] <;> rfl) | (simp [*, errW_none, errW_some] <;> rfl), by first | exact Kd.S_nil _ _ _ _ _ | exact Kd.N_nil _ _ _ _ _ | exact Kd.V_nil _ _ _ _ _ | exact Kd.Q_nil _ _ _ _ _ | exact Kd.R_nil _ _ _ _ _, by repeat (first | (with_reducible first | exact HB.out | apply below_alloc | apply pw_below_drewN | apply below_drew1) | exact HB.out)⟩
      · replace c7 := Bool.eq_false_iff.mpr c7
        subst c7
        have H1 : (if 0 ≤ a1 then (if (a1 : Int).toNat ≤ 11728124029610 then (pcm_Part.l0 kj2 a1 (List.replicate (a1 : Int).toNat []) l0 (l0.length : Int) 0) else (none)) else (none)) = some (r1, r2) := by rw [if_neg (show ¬ (false = true) by decide)] at H; exact H
        clear H
        have H := H1
        clear H1
        by_cases c8 : 0 ≤ a1
        · rw [if_pos c8] at H
          have c8b0 := eq_true c8
          have c8b1 : decide (0 ≤ a1) = true := decide_eq_true c8
          clear c8
          by_cases c9 : (a1 : Int).toNat ≤ 11728124029610
          · rw [if_pos c9] at H
            have c9b0 := eq_true c9
            have c9b1 : decide ((a1 : Int).toNat ≤ 11728124029610) = true := decide_eq_true c9
            clear c9
            obtain ⟨y103, hy103⟩ : ∃ y_ : List (List Int), y_ = (List.replicate (a1 : Int).toNat []) := ⟨_, rfl⟩
            replace H : (pcm_Part.l0 kj2 a1 y103 l0 (l0.length : Int) 0) = some (r1, r2) := by first | (rw [hy103]; with_reducible exact H) | (have H2_ := (Option.bind_some _ _).symm.trans H; rw [hy103]; with_reducible exact H2_) | (have H2_ := (Option.bind_some _ _).symm.trans H; with_reducible exact H2_) | with_reducible exact H | (rw [hy103]; exact H) | exact H
            have Ny103 := Aside0.mk hy103
            clear hy103
            have H' := Aside0.mk H
            clear H
            go_wp2_with (first | ((with_reducible refine gate_dst (N := 23) rfl ?_); (try (refine gate_guard (by rfl) ?_; dsimp only)); refine Kd.S_make (Kd.slice 33 (Kd.int .i16)) _ 29 rfl (N := 23) rfl 22 _ _ rfl a1 rfl rfl Try.underlying22 (.slice none 0 0) 24 info29 rfl (by decide) (by omega) [] (ok := fun _ => True) (okp := fun _ => True) ⟨_, rfl, Kd.R_nil _ _ _ _ _⟩ (fun _ hk => hk) trivial (of_decide_eq_true (by first | (with_reducible assumption) | assumption)) (Nat.le_trans (Nat.mul_le_mul_right _ (of_decide_eq_true (by first | (with_reducible assumption) | assumption) : a1.toNat ≤ 11728124029610)) (by omega)) (Below.refl _ _) (Nat.le_refl _) ?_; intro v104 w10 ho11 hb hg_ hnew_; clear hg_ hnew_; (first | rw [← Ny103.out] at ho11 | (simp only [Int.reduceToNat] at ho11; rw [← Ny103.out] at ho11)); have n0_ := Aside0.mk (Kd.S_lower ho11 (below_size (by repeat (first | (with_reducible first | exact HB.out | apply below_alloc | apply pw_below_drewN | apply below_drew1) | exact HB.out)))); have n1_ := Aside0.mk (below_step (by repeat (first | (with_reducible first | exact HB.out | apply below_alloc | apply pw_below_drewN | apply below_drew1) | exact HB.out)) hb); clear HB; have HO105 := n0_; have HB := n1_; clear n0_ n1_; clear hb ho11))
            go_loopg [26] kj2 (fun kq v26 w' => ∃ (x6_2 : List (List Int)) (x26_2 : Int), v26 = .int .i64 x26_2 ∧ Aside0 (pcm_Part.l0 kq a1 x6_2 l0 (l0.length : Int) x26_2 = some (r1, r2)) ∧ Aside0 (kq ≤ kj2) ∧ Aside0 (Kd.S (Kd.slice 33 (Kd.int .i16)) 29 w' w.heap.size (fun _ => True) v104 x6_2) ∧ Aside0 (Below w.heap.size w w'))
            case atStart => exact ⟨(y103), (0), (by first | rfl | (simp; done) | (simp [*]; done)), H', ⟨Nat.le_refl _⟩, ⟨by (with_reducible repeat (first | apply Kd.S_alloc | apply Kd.S_drewN | apply Kd.S_drew)); exact HO105.out⟩, ⟨by repeat (first | (with_reducible first | exact HB.out | apply below_alloc | apply pw_below_drewN | apply below_drew1) | exact HB.out)⟩⟩
            case round =>
              clear H'
              try clear p2
              try clear c3
              try clear c4
              try clear c4b0
              try clear c5
              try clear c5b0
              try clear c6
              try clear c6b0
              try clear c6b1
              try clear c7
              try clear c8
              try clear c8b0
              try clear c8b1
              try clear c9
              try clear c9b0
              try clear c9b1
              try clear p2
              obtain ⟨x6_2, x26_2, rfl, HA, HK2, HO_6, HB⟩ := hrel
              cases gk with
              | zero => exact absurd HA.out (by simp [pcm_Part.l0])
              | succ k2 =>
                have H := HA.out
                clear HA
                simp only [pcm_Part.l0] at H
                by_cases c12 : x26_2 < (l0.length : Int)
                · rw [if_pos c12] at H
                  have c12b0 : decide (x26_2 < (l0.length : Int)) = true := decide_eq_true c12
                  clear c12
                  by_cases c13 : 0 ≤ x26_2
                  · rw [if_pos c13] at H
                    have c13b0 : decide (0 ≤ x26_2) = true := decide_eq_true c13
                    clear c13
                    by_cases c14 : x26_2 < (l0.length : Int)
                    · rw [if_pos c14] at H
                      have c14b0 : decide (x26_2 < (l0.length : Int)) = true := decide_eq_true c14
                      clear c14
                      by_cases c15 : a1 = 0
                      · rw [if_pos c15] at H
                        exact absurd H (by simp)
                      · rw [if_neg c15] at H
                        have c15b0 : (a1 == 0) = false := beq_eq_false_iff_ne.mpr c15
                        have c15b1 : (a1 != 0) = true := bne_iff_ne.mpr c15
                        obtain ⟨ji16, hji16⟩ : ∃ j_ : Int, (Int.tmod x26_2 a1) = j_ := ⟨_, rfl⟩
                        replace H : (if 0 ≤ (ji16) then (if (ji16) < (x6_2.length : Int) then (if (rd_L1 x6_2 (ji16)).length < 70368744177664 then (pcm_Part.l0 k2 a1 (x6_2.set ((ji16) : Int).toNat ((rd_L1 x6_2 (ji16)) ++ [rd l0 x26_2])) l0 (l0.length : Int) (wrap64 (x26_2 + 1))) else (none)) else (none)) else (none)) = some (r1, r2) := by first | (rw [hji16] at H; exact H) | (simp only [hji16] at H ⊢; exact H)
                        by_cases c17 : 0 ≤ (ji16)
                        · rw [if_pos c17] at H
                          have c17b0 : decide (0 ≤ (ji16)) = true := decide_eq_true c17
                          clear c17
                          by_cases c18 : (ji16) < (x6_2.length : Int)
                          · rw [if_pos c18] at H
                            have c18b0 : decide ((ji16) < (x6_2.length : Int)) = true := decide_eq_true c18
                            clear c18
                            by_cases c19 : (rd_L1 x6_2 (ji16)).length < 70368744177664
                            · rw [if_pos c19] at H
                              have LMc19 := Aside0.mk c19
                              clear c19
                              obtain ⟨y108, hy108⟩ : ∃ y_ : List Int, y_ = ((rd_L1 x6_2 (ji16)) ++ [rd l0 x26_2]) := ⟨_, rfl⟩
                              replace H : (pcm_Part.l0 k2 a1 (x6_2.set ((ji16) : Int).toNat y108) l0 (l0.length : Int) (wrap64 (x26_2 + 1))) = some (r1, r2) := by first | (rw [hy108]; with_reducible exact H) | (have H2_ := (Option.bind_some _ _).symm.trans H; rw [hy108]; with_reducible exact H2_) | (have H2_ := (Option.bind_some _ _).symm.trans H; with_reducible exact H2_) | with_reducible exact H | (rw [hy108]; exact H) | exact H
                              have Ny108 := Aside0.mk hy108
                              clear hy108
                              obtain ⟨y111, hy111⟩ : ∃ y_ : List (List Int), y_ = (x6_2.set ((ji16) : Int).toNat y108) := ⟨_, rfl⟩
                              replace H : (pcm_Part.l0 k2 a1 y111 l0 (l0.length : Int) (wrap64 (x26_2 + 1))) = some (r1, r2) := by first | (rw [hy111]; with_reducible exact H) | (have H2_ := (Option.bind_some _ _).symm.trans H; rw [hy111]; with_reducible exact H2_) | (have H2_ := (Option.bind_some _ _).symm.trans H; with_reducible exact H2_) | with_reducible exact H | (rw [hy111]; exact H) | exact H
                              have Ny111 := Aside0.mk hy111
                              clear hy111
                              have H' := Aside0.mk H
                              clear H
                              have p106 : 0 ≤ (x26_2 : Int) := of_decide_eq_true (by first | (with_reducible assumption) | assumption)
                              have q106 : x26_2 < (l0.length : Int) := of_decide_eq_true (by first | (with_reducible assumption) | assumption)
                              obtain ⟨ad106, e106, hx106_0⟩ := Kd.at_int HR0.out x26_2 p106 q106
                              cases e106
                              replace hx106_0 := (HB.out.cell (World.block_lt_of_cell? w _ hx106_0)).trans hx106_0
                              replace p106 := eq_true p106
                              replace q106 := eq_true q106
                              try go_wp2
                              have n0_ := Aside0.mk (Kd.S_drew HO_6.out)
                              have n1_ := Aside0.mk (below_drew1 HB.out)
                              clear HO_6
                              clear HB
                              have HO_6 := n0_
                              have HB := n1_
                              clear n0_ n1_
                              obtain ⟨Ao22, co22, eo22⟩ := Kd.S_slice HO_6.out
                              (first | subst eo22 | (injection eo22 with f1_ f2_ f3_; have f4_ := f1_.symm; have f5_ := f3_.symm; clear f1_ f2_ f3_; subst f4_; subst f5_))
                              have p107 : 0 ≤ ((ji16) : Int) := of_decide_eq_true (by first | (with_reducible assumption) | assumption)
                              have q107 : (ji16) < (x6_2.length : Int) := of_decide_eq_true (by first | (with_reducible assumption) | assumption)
                              obtain ⟨ad107, A107_0, c107_0, e107, hx107_0, hl107_0, hi107_0⟩ := at_L1 (Kd.S_reads' HO_6.out).2.2 (ji16) p107 q107
                              cases e107
                              obtain ⟨ce107, hce107, hMe107, hcc107⟩ := Kd.S_get HO_6.out [] (ji16) p107 (by first | exact q107 | exact of_decide_eq_true (by first | (with_reducible assumption) | assumption) | (have e_ := (Kd.S_reads' HO_6.out).1; omega))
                              obtain ⟨ve107_0, rfl, ge107_0⟩ := hMe107
                              have hv107_0 := hcc107 0 _ rfl
                              rw [Nat.add_zero, show ((Kd.slice 33 (Kd.int .i16))).sz = 1 from rfl, Nat.mul_one] at hv107_0
                              replace hv107_0 := Option.some.inj (hv107_0.symm.trans hx107_0)
                              rw [hv107_0] at ge107_0
                              have HL107_0 := Aside0.mk (show Kd.R (Kd.int .i16) 33 _ _ _ _ (rd_L1 x6_2 (ji16)) from ge107_0)
                              clear hv107_0 ge107_0
                              have HX107_0 := Aside0.mk hx107_0
                              clear hcc107 hce107
                              have HR107_0 := Aside0.mk hi107_0
                              have HC107_0 := Aside0.mk hl107_0
                              clear hi107_0 hl107_0
                              replace p107 := eq_true p107
                              replace q107 := eq_true q107
                              obtain ⟨go23, co23, eo23, gb23, gl23, cl23, HG23⟩ := Kd.S_form HO_6.out (by have h_ : ((ji16) : Int) < ((x6_2.length : Int) : Int) := of_decide_eq_true (by first | (with_reducible assumption) | assumption); have h2_ : 0 ≤ ((ji16) : Int) := (of_decide_eq_true (by first | (with_reducible assumption) | assumption)); omega)
                              (first | cases eo23 | (injection eo23 with ea_ en_ ec_; (first | subst ea_ | (injection ea_ with ea_; subst ea_)); subst ec_; clear en_))
                              have GB23 := Aside0.mk gb23
                              have GG23 := Aside0.mk HG23
                              clear gb23 gl23 HG23
                              (first | simp only [add_plain] at hx107_0 | skip)
                              obtain ⟨oki23, ce23, hcl23, hM23, hcc23, _, _, hH23⟩ := Kd.S_elem HO_6.out [] ((ji16) : Int) (of_decide_eq_true (by first | (with_reducible assumption) | assumption)) (by have h_ : ((ji16) : Int) < ((x6_2.length : Int) : Int) := of_decide_eq_true (by first | (with_reducible assumption) | assumption); first | exact h_ | (have e_ := (Kd.S_reads' HO_6.out).1; omega) | simpa using h_)
                              obtain ⟨ve23_0, rfl, ge23_0⟩ := hM23
                              have hv23 := hcc23 0 _ rfl
                              have hX23 := HX107_0.out
                              (try simp only [add_plain] at hX23)
                              (try simp only [Nat.add_zero] at hv23)
                              (try rw [show ((Kd.slice 33 (Kd.int .i16))).sz = 1 from rfl, Nat.mul_one] at hv23)
                              replace hv23 := Option.some.inj (hv23.symm.trans hX23)
                              subst hv23
                              clear hX23 hcc23 hcl23
                              have UU23 := Aside0.mk (show Kd.R (Kd.int .i16) 33 _ w.heap.size oki23 (.slice A107_0 (rd_L1 x6_2 (ji16)).length c107_0) (rd_L1 x6_2 (ji16)) from ge23_0)
                              have HH23 := Aside0.mk hH23
                              have HN23 := Aside0.mk (Kd.S_reads' HO_6.out).1
                              clear hH23 ge23_0
                              refine start_ (n := 15) (S := fun w' => w'.cell? ⟨go23, ((ji16)).toNat, none⟩ = some (.slice A107_0 (rd_L1 x6_2 (ji16)).length c107_0)) (ds := [14]) #[false, false, false, false, false, false, false, false, false, false, false, false, false, false, false] (by kernel_rfl) rfl rfl (hx107_0) (fun hHeld => ?_); refine with_tabW pcm_Part.tab7 pcm_Part.bits7 (fun HT_ HW_ => ?_)
                              generalize wr.drew = w21 at HO_6 HB GG23 HH23 HL107_0 HR107_0 HX107_0 UU23 hx107_0 hHeld ⊢
                              refine pure_ (i := 0) (N := some 31) (v := ?_) (a' := ?_) #[true, false, false, false, false, false, false, false, false, false, false, false, false, false, false] rfl rfl (any_of HT_.out (by kernel_rfl)) (fun _ _ _ h => h) (Or.inl ⟨by rfl, ?_⟩) ?_ ?_
                              rotate_left
                              · intro w'
                                go_simp
                                with_reducible rfl
                              rotate_left
                              · simp only [Act.put, List.setIfInBounds_toArray, List.set_cons_zero, List.set_cons_succ, i64_w, i32_w]
                                rfl
                              refine pure_ (i := 1) (N := some 32) (v := ?_) (a' := ?_) #[true, true, false, false, false, false, false, false, false, false, false, false, false, false, false] rfl rfl (any_of HT_.out (by kernel_rfl)) (fun _ _ _ h => h) (Or.inl ⟨by rfl, ?_⟩) ?_ ?_
                              rotate_left
                              · intro w'
                                go_simp
                                with_reducible rfl
                              rotate_left
                              · simp only [Act.put, List.setIfInBounds_toArray, List.set_cons_zero, List.set_cons_succ, i64_w, i32_w]
                                rfl
                              refine pure_ (i := 2) (N := some 33) (v := ?_) (a' := ?_) #[true, true, true, false, false, false, false, false, false, false, false, false, false, false, false] rfl rfl (any_of HT_.out (by kernel_rfl)) (fun _ _ _ h => h) (Or.inl ⟨by rfl, ?_⟩) ?_ ?_
                              rotate_left
                              · intro w'
                                go_simp
                                with_reducible rfl
                              rotate_left
                              · simp only [Act.put, List.setIfInBounds_toArray, List.set_cons_zero, List.set_cons_succ, i64_w, i32_w]
                                rfl
                              refine pure_ (i := 3) (N := some 34) (v := ?_) (a' := ?_) #[true, true, true, true, false, false, false, false, false, false, false, false, false, false, false] rfl rfl (any_of HT_.out (by kernel_rfl)) (fun _ _ _ h => h) (Or.inl ⟨by rfl, ?_⟩) ?_ ?_
                              rotate_left
                              · intro w'
                                go_simp
                                with_reducible rfl
                              rotate_left
                              · simp only [Act.put, List.setIfInBounds_toArray, List.set_cons_zero, List.set_cons_succ, i64_w, i32_w]
                                rfl
                              refine pure_ (i := 4) (N := some 35) (v := ?_) (a' := ?_) #[true, true, true, true, true, false, false, false, false, false, false, false, false, false, false] rfl rfl (any_of HT_.out (by kernel_rfl)) (fun _ _ _ h => h) (Or.inl ⟨by rfl, ?_⟩) ?_ ?_
                              rotate_left
                              · intro w'
                                go_simp
                                with_reducible rfl
                              rotate_left
                              · simp only [Act.put, List.setIfInBounds_toArray, List.set_cons_zero, List.set_cons_succ, i64_w, i32_w]
                                rfl
                              refine pure_ (i := 5) (N := some 36) (v := ?_) (a' := ?_) #[true, true, true, true, true, true, false, false, false, false, false, false, false, false, false] rfl rfl (any_of HT_.out (by kernel_rfl)) (fun _ _ _ h => h) (Or.inl ⟨by rfl, ?_⟩) ?_ ?_
                              rotate_left
                              · intro w'
                                go_simp
                                with_reducible rfl
                              rotate_left
                              · simp only [Act.put, List.setIfInBounds_toArray, List.set_cons_zero, List.set_cons_succ, i64_w, i32_w]
                                rfl
                              refine pure_ (i := 6) (N := some 37) (v := ?_) (a' := ?_) #[true, true, true, true, true, true, true, false, false, false, false, false, false, false, false] rfl rfl (any_of HT_.out (by kernel_rfl)) (fun _ _ _ h => h) (Or.inl ⟨by rfl, ?_⟩) ?_ ?_
                              rotate_left
                              · intro w'
                                go_simp
                                with_reducible rfl
                              rotate_left
                              · simp only [Act.put, List.setIfInBounds_toArray, List.set_cons_zero, List.set_cons_succ, i64_w, i32_w]
                                rfl
                              refine pure_ (i := 7) (N := some 38) (v := ?_) (a' := ?_) #[true, true, true, true, true, true, true, true, false, false, false, false, false, false, false] rfl rfl (any_of HT_.out (by kernel_rfl)) (fun _ _ _ h => h) (Or.inl ⟨by rfl, ?_⟩) ?_ ?_
                              rotate_left
                              · intro w'
                                go_simp
                                with_reducible rfl
                              rotate_left
                              · simp only [Act.put, List.setIfInBounds_toArray, List.set_cons_zero, List.set_cons_succ, i64_w, i32_w]
                                rfl
                              refine pure_ (i := 8) (N := some 39) (v := ?_) (a' := ?_) #[true, true, true, true, true, true, true, true, true, false, false, false, false, false, false] rfl rfl (any_of HT_.out (by kernel_rfl)) (fun _ _ _ h => h) (Or.inl ⟨by rfl, ?_⟩) ?_ ?_
                              rotate_left
                              · intro w'
                                go_simp
                                with_reducible rfl
                              rotate_left
                              · simp only [Act.put, List.setIfInBounds_toArray, List.set_cons_zero, List.set_cons_succ, i64_w, i32_w]
                                rfl
                              refine pure_ (i := 10) (N := some 41) (v := ?_) (a' := ?_) #[true, true, true, true, true, true, true, true, true, false, true, false, false, false, false] rfl rfl (any_of HT_.out (by kernel_rfl)) (fun _ _ _ h => h) (Or.inl ⟨by rfl, ?_⟩) ?_ ?_
                              rotate_left
                              · intro w'
                                go_simp
                                with_reducible rfl
                              rotate_left
                              · simp only [Act.put, List.setIfInBounds_toArray, List.set_cons_zero, List.set_cons_succ, i64_w, i32_w]
                                rfl
                              refine take_ (i := 9) (N := some 40) (v := ?_) (a' := ?_) #[true, true, true, true, true, true, true, true, true, true, true, false, false, false, false] rfl rfl (take_ofW HT_.out HW_.out (by kernel_rfl)) (fun _ _ _ h => h) (Or.inl ⟨by rfl, ?_⟩) hHeld ?_ ?_
                              rotate_left
                              · intro w' s0
                                go_simp
                                with_reducible rfl
                              rotate_left
                              · simp only [Act.put, List.setIfInBounds_toArray, List.set_cons_zero, List.set_cons_succ, i64_w, i32_w]
                                rfl
                              refine one_ (i := 11) (N := some 42) #[true, true, true, true, true, true, true, true, true, true, true, true, false, false, false] rfl rfl (one_of HT_.out (by kernel_rfl)) (by decide) (fun K hK => ?_)
                              refine value_ (w1 := ?_) (v := ?_) (by rfl) rfl ?_ ?_
                              rotate_left 2
                              · go_simp
                                constructor
                                · rfl
                                · rfl
                              refine hK.out _ _ ((World.cell?_alloc_lt _ _ _ (World.block_lt_of_cell? _ _ (hHeld))).trans (hHeld)) (fun hHeld => ?_)
                              clear hK K
                              refine norm_ (a' := ?_) ?_ ?_
                              rotate_left
                              · show Act.put _ (some 42) _ = _
                                simp only [Act.put, List.setIfInBounds_toArray, List.set_cons_zero, List.set_cons_succ, i64_w, i32_w]
                                rfl
                              refine one_ (i := 12) (N := some 43) #[true, true, true, true, true, true, true, true, true, true, true, true, true, false, false] rfl rfl (one_of HT_.out (by kernel_rfl)) (by decide) (fun K hK => ?_)
                              refine Kd.R_append_step (Kd.int .i16) (w0 := w) w.heap.size (by rfl) (.tmp 40) (.tmp 42) 29 33 (.int .i16 0) 2 rfl Try.underlying29 info33 rfl (by decide) (by omega) (.slice A107_0 (rd_L1 x6_2 (ji16)).length c107_0) (rd_L1 x6_2 (ji16)) (rd l0 x26_2) [.int .i16 (rd l0 x26_2)] (fun k_ => oki23 k_ ∨ ((fun _ => True)) k_ ∧ w21.heap.size ≤ k_) (fun _ => False) rfl rfl ?aP (fun _ hk => hk.elim) ?aF ?aO ?aB ?aS ?aL ?_
                              (case aP => exact rfl)
                              (case aB => exact (by repeat (first | (with_reducible first | exact HB.out | apply below_alloc | apply pw_below_drewN | apply below_drew1) | exact HB.out)))
                              (case aF => exact (fun k_ hk => .inr ⟨trivial, hk⟩))
                              (case aO => exact (by (with_reducible repeat (first | apply Kd.R_alloc | apply Kd.R_drewN | apply Kd.R_drew)); exact Kd.R_mono UU23.out (fun _ hk => .inl hk)))
                              (case aS => exact (below_size (by repeat (first | (with_reducible first | exact HB.out | apply below_alloc | apply pw_below_drewN | apply below_drew1) | exact HB.out))))
                              (case aL => have := LMc19.out; omega)
                              intro v109 w24 ho hb hg hat
                              (first | have HS0_ := cell_grown hg (hHeld) (by first | (rw [add_block]; exact (fun e_ => ((HL107_0.out.1 _ e_.symm).2) rfl)) | (show some (Addr.add _ _).block ≠ _; rw [add_block]; exact (fun e_ => ((HL107_0.out.1 _ e_.symm).2) rfl)) | exact (fun e_ => ((HL107_0.out.1 _ e_.symm).2) rfl)) | have HS0_ := cell_grown hg (cell_unalloc (hHeld) (by first | (rw [add_block]; exact Kd.S_lt HO_6.out _ rfl) | (show (Addr.add _ _).block < _; rw [add_block]; exact Kd.S_lt HO_6.out _ rfl) | exact Kd.S_lt HO_6.out _ rfl)) (by first | (rw [add_block]; exact (fun e_ => ((HL107_0.out.1 _ e_.symm).2) rfl)) | (show some (Addr.add _ _).block ≠ _; rw [add_block]; exact (fun e_ => ((HL107_0.out.1 _ e_.symm).2) rfl)) | exact (fun e_ => ((HL107_0.out.1 _ e_.symm).2) rfl)))
                              rw [← Ny108.out] at ho
                              have n0_ := Aside0.mk (hb)
                              have n1_ := Aside0.mk (Kd.H_grown (Kd.H_widen (by repeat (first | exact HH23.out | refine Kd.H_alloc ?_ _ | refine Kd.H_drewN ?_ _ | refine Kd.H_drew ?_))) hg (fun k_ e_ => .inl (UU23.out.1 k_ e_)))
                              have n2_ := Aside0.mk (ho)
                              clear HB
                              clear HH23
                              clear HO_6
                              clear UU23
                              clear HL107_0
                              have HB := n0_
                              have HH23 := n1_
                              have HO110 := n2_
                              clear n0_ n1_ n2_
                              clear ho hb hg hat
                              have p20 : 0 ≤ ((ji16) : Int) := of_decide_eq_true (by first | (with_reducible assumption) | assumption)
                              have q20 : ((ji16) : Int) < ((x6_2.length : Int) : Int) := of_decide_eq_true (by first | (with_reducible assumption) | assumption)
                              replace p20 := eq_true p20
                              replace q20 := eq_true q20
                              obtain ⟨Ao27, co27, eo27⟩ := Kd.R_slice HO110.out
                              (first | subst eo27 | (injection eo27 with f1_ f2_ f3_; have f4_ := f1_.symm; have f5_ := f3_.symm; clear f1_ f2_ f3_; subst f4_; subst f5_))
                              obtain ⟨_, _, hraw25, _, _, hcc25, _⟩ := Kd.H_raw HH23.out (of_decide_eq_true (by first | (with_reducible assumption) | assumption)) (by have h_ : ((ji16) : Int) < ((x6_2.length : Int) : Int) := of_decide_eq_true (by first | (with_reducible assumption) | assumption); first | exact h_ | (have e_ := (HN23.out); omega) | simpa using h_)
                              obtain ⟨_, hfr25⟩ := Kd.H_at HH23.out (of_decide_eq_true (by first | (with_reducible assumption) | assumption)) (by have h_ : ((ji16) : Int) < ((x6_2.length : Int) : Int) := of_decide_eq_true (by first | (with_reducible assumption) | assumption); first | exact h_ | (have e_ := (HN23.out); omega) | simpa using h_)
                              have hx25_0 := hcc25 0 _ rfl
                              have hf25_0 := hfr25 0
                              (try simp only [Nat.add_zero] at hx25_0 hf25_0)
                              (try rw [show ((Kd.slice 33 (Kd.int .i16))).sz = 1 from rfl, Nat.mul_one] at hx25_0)
                              (try rw [show ((Kd.slice 33 (Kd.int .i16))).sz = 1 from rfl, Nat.mul_one] at hf25_0)
                              have HP25 := Kd.S_seg0 HH23.out (of_decide_eq_true (by first | (with_reducible assumption) | assumption)) (by have h_ : ((ji16) : Int) < ((x6_2.length : Int) : Int) := of_decide_eq_true (by first | (with_reducible assumption) | assumption); first | exact h_ | (have e_ := (HN23.out); omega) | simpa using h_) (seg := [.slice Ao27 y108.length co27]) (j := 0) (show 1 ≤ 1 from by decide) (x' := y108) (Kd.M_row HO110.out) (fun _ hk => hk)
                              (try simp only [show ((Kd.slice 33 (Kd.int .i16))).sz = 1 from rfl, Nat.mul_one, Nat.add_zero] at HP25)
                              clear hcc25 hfr25
                              have HS25 := HP25.1
                              rw [← Ny111.out] at HS25
                              have HQ25 := Aside0.mk HS25
                              obtain ⟨_, hgg25⟩ := Kd.R_typed hraw25 go23 rfl
                              have GG25_ := Aside0.mk hgg25
                              clear HP25 HS25 hgg25
                              refine hK.out _ _ (HS0_) (fun hHeld => ?_)
                              clear hK K
                              refine norm_ (a' := ?_) ?_ ?_
                              rotate_left
                              · show Act.put _ (some 43) _ = _
                                simp only [Act.put, List.setIfInBounds_toArray, List.set_cons_zero, List.set_cons_succ, i64_w, i32_w]
                                rfl
                              refine pure_ (i := 13) (N := some 44) (v := ?_) (a' := ?_) #[true, true, true, true, true, true, true, true, true, true, true, true, true, true, false] rfl rfl (any_of HT_.out (by kernel_rfl)) (fun _ _ _ h => h) (Or.inl ⟨by rfl, ?_⟩) ?_ ?_
                              rotate_left
                              · intro w'
                                go_simp
                                with_reducible rfl
                              rotate_left
                              · simp only [Act.put, List.setIfInBounds_toArray, List.set_cons_zero, List.set_cons_succ, i64_w, i32_w]
                                rfl
                              refine last_ (i := 14) (N := none) #[true, true, true, true, true, true, true, true, true, true, true, true, true, true, true] rfl rfl (one_of HT_.out (by kernel_rfl)) (by decide) (fun K hK => ?_)
                              refine skip_ (w1 := ?_) (by rfl) rfl ?_ ?_
                              rotate_left
                              · go_simp
                                rfl
                              refine hK.out _ _ ?_
                              clear hK K
                              refine done_ (done_of HT_.out (by kernel_rfl)) ?_
                              try go_wp2
                              go_roundg k2
                              case measure => have := HJ2.out; have := HK2.out; omega
                              case rel => exact ⟨(y111), (wrap64 (x26_2 + 1)), (by first | rfl | (simp; done) | (simp [*]; done)), H', ⟨by have := HJ2.out; have := HK2.out; omega⟩, ⟨by (with_reducible repeat (first | apply Kd.S_alloc | apply Kd.S_drewN | apply Kd.S_drew)); exact HQ25.out⟩, ⟨by repeat (first | (with_reducible first | exact HB.out | apply below_alloc | apply pw_below_drewN | apply below_drew1 | refine below_set ?_ GB23.out) | exact HB.out)⟩⟩
                            · rw [if_neg c19] at H
                              exact absurd H (by simp)
                          · rw [if_neg c18] at H
                            exact absurd H (by simp)
                        · rw [if_neg c17] at H
                          exact absurd H (by simp)
                    · rw [if_neg c14] at H
                      exact absurd H (by simp)
                  · rw [if_neg c13] at H
                    exact absurd H (by simp)
                · rw [if_neg c12] at H
                  have c12b0 : decide (x26_2 < (l0.length : Int)) = false := decide_eq_false c12
                  clear c12
                  simp only [Option.some.injEq, Prod.mk.injEq] at H
                  obtain ⟨rfl, rfl⟩ := H
                  go_wp2
                  go_ret2
                  exact ⟨_, by first | rfl | (simp [errW_none, errW_some] <;> rfl) | (simp [*, errW_none, errW_some] <;> rfl), by (with_reducible repeat (first | apply Kd.S_alloc | apply Kd.S_drewN | apply Kd.S_drew)); exact HO_6.out, by repeat (first | (with_reducible first | exact HB.out | apply below_alloc | apply pw_below_drewN | apply below_drew1) | exact HB.out)⟩
          · rw [if_neg c9] at H
            exact absurd H (by simp)
        · rw [if_neg c8] at H
          exact absurd H (by simp)

theorem reads_int {k : IntKind} {w : World} {A : Option Addr} {n : Nat} {xs : List Int} (h : Kd.C (Kd.int k) w A n xs) : ReadsInt w k A n xs := by
  obtain ⟨h1, h2, h3⟩ := h
  refine ⟨h1, h2, fun hp => ?_⟩
  obtain ⟨ad, e, hc⟩ := h3 hp
  refine ⟨ad, e, fun j hj => ?_⟩
  obtain ⟨c, hl, hr, hcell⟩ := hc j _ (List.getElem?_eq_getElem (by omega))
  have hr' : c = [.int k (xs[j]'(by omega))] := hr
  have := hcell 0 (.int k (xs[j]'(by omega))) (by rw [hr']; rfl)
  have e1 : (Kd.int k).sz = 1 := rfl
  rw [e1, Nat.mul_one, Nat.add_zero] at this
  rw [this, List.getD_eq_getElem?_getD, List.getElem?_eq_getElem (by omega)]; rfl
/-! ### pcm_NewStore: function 15 -/
theorem pcm_NewStore.calls (a0 : Int) (h0 : 0 ≤ a0) (h1 : a0 ≤ 4096) (w : World) :
    Calls Try.prog 15 #[.int .i64 a0] w fun e w' => ∃ p, e = .returned (.tuple #[.pointer (some ⟨p, 0, none⟩), .int .i64 0]) ∧ w'.heap[p]? = some (.cells #[.int .i64 a0, .slice none 0 0] 84 (0, 0)) ∧ w.heap.size ≤ p ∧ Below w.heap.size w w' := by
  have t0 : decide (a0 < 0) = false := decide_eq_false (by omega)
  have t1 : decide (4096 < a0) = false := decide_eq_false (by omega)
  clear h0 h1
  go_enter Try.func15, Try.ntmps15
  go_wp2
  go_ret2
  exact ⟨w.heap.size, rfl, blk_new _ _, Nat.le_refl _, below_alloc (Below.refl _ _) _⟩
/-! ### slices_Delete: function 51: the first k of a row of the call's own -/
theorem cut3 {i0 : TypeInfo} (hi0 : Try.prog.info? 33 = some i0) (hsz : i0.size = 1) (A : Option Addr) (n c : Nat) (lo hi mx : Int) (h0 : 0 ≤ lo) (h1 : lo ≤ hi) (h2 : hi ≤ mx) (h3 : mx ≤ c) :
    ∃ X, ∀ W : World, (Instr.slice 29 (.slice A n c) (some (.int .i64 lo)) (some (.int .i64 hi)) (some (.int .i64 mx))).run Try.prog W = .ok X W := by
  refine ⟨sliced A lo.toNat hi.toNat mx.toNat 1, fun W => ?_⟩
  have hel : Try.prog.elem 29 = 33 := by simp [Program.elem, Try.underlying29]
  have hu : Try.prog.underlying 29 = some (.slice (Try.prog.elem 29)) := by rw [hel]; exact Try.underlying29
  rw [run_slice_lhm W 29 A n c hu .i64 .i64 .i64 lo hi mx h0 h1 h2 h3, hel]
  simp [sizeOf, typeInfo, hi0, hsz, Result.andThen]
theorem zero16 (w : World) : (zeroValue 33).run Try.prog w = .ok (.int .i16 0) w := by kernel_rfl
/-- The places from m on, below n, of a row of which the first m are told, set to 0. -/
theorem tail_clear {w1 : World} {base g m n cap : Nat} {l : List Int} (ho : w1.ownsRow base 33 1 (.slice (some ⟨g, 0, none⟩) m cap) l.length (nums .i16 l)) (hl : l.length = m) (hm : m < n) (hn : n ≤ cap) :
    (∀ ty c, (Builtin.clear_ #[29] ty #[.slice (some ⟨g, m, none⟩) (n - m) c]).run Try.prog w1 = .ok (.tuple #[]) (w1.setCells g m (List.replicate (n - m) (.int .i16 0)))) ∧
      (w1.setCells g m (List.replicate (n - m) (.int .i16 0))).ownsRow base 33 1 (.slice (some ⟨g, 0, none⟩) m cap) l.length (nums .i16 l) ∧ w1.grownBy (w1.setCells g m (List.replicate (n - m) (.int .i16 0))) (some g) := by
  obtain ⟨h1, h2⟩ := ho
  rcases h2 with ⟨h, _⟩ | ⟨g', cap', cur, h, hb, hh, hc, hcm, hs, ht⟩
  · simp at h
  · simp at h; obtain ⟨rfl, h', rfl⟩ := h
    rw [Nat.mul_one] at hs ht
    obtain ⟨cur', hh', hs', ht'⟩ := setCells_row (List.replicate (n - m) (.int .i16 0)) m w1 cur hh (by rw [List.length_replicate]; omega)
    refine ⟨fun ty c => ?_, ⟨h1, .inr ⟨g, cap, cur', by rw [hl], hb, hh', hc, hcm, by omega, ?_⟩⟩, ?_⟩
    · refine Lib.run_clear_slice w1 29 33 ty (.int .i16 0) Try.underlying29 zero16 rfl rfl g m (n - m) c (by omega) (fun j hj => ?_) (fun j hj => blk_frozen hh _)
      rw [blk_cell hh, Array.getElem?_eq_getElem (by omega)]; rfl
    · rw [ht', Nat.mul_one, List.append_assoc, List.take_append_of_le_length (by simp; omega), hl, List.take_take, Nat.min_self, ← hl, ht]
    · obtain ⟨q1, q2, q3, q4⟩ := setCells_same g (List.replicate (n - m) (.int .i16 0)) m w1
      exact ⟨q1, q2, q3, by omega, fun i _ hi => setCells_far _ _ i (by intro e; exact hi (by rw [e]))⟩
theorem own_cells {w : World} {base g n cap : Nat} {l : List Int} (ho : w.ownsRow base 33 1 (.slice (some ⟨g, 0, none⟩) n cap) n (nums .i16 l)) : l.length = n ∧ n ≤ cap ∧ base ≤ g ∧ cap ≤ maxLen ∧ ∀ j u, (nums .i16 l)[j]? = some u → w.cell? ⟨g, j, none⟩ = some u := by
  obtain ⟨h1, h2⟩ := ho
  rcases h2 with ⟨h, _⟩ | ⟨g', cap', cur, h, hb, hh, hc, hcm, hs, ht⟩
  · simp at h
  · simp at h; obtain ⟨rfl, rfl⟩ := h
    rw [Nat.mul_one] at hs ht h1
    refine ⟨by simpa [nums] using h1, hc, hb, hcm, fun j u hj => ?_⟩
    rw [← ht, List.getElem?_take] at hj
    split at hj
    · rw [blk_cell hh]; simpa using hj
    · cases hj
set_option maxRecDepth 100000 in
theorem slices_Delete.calls (base g cap n m k : Nat) (l : List Int) (w : World) (ho : w.ownsRow base 33 1 (.slice (some ⟨g, 0, none⟩) n cap) n (nums .i16 l)) (hk : 1 ≤ k) (hm : m + k = n) :
    Calls Try.prog 51 #[.slice (some ⟨g, 0, none⟩) n cap, .int .i64 0, .int .i64 (k : Int)] w fun e w' => e = .returned (.slice (some ⟨g, 0, none⟩) m cap) ∧ w'.ownsRow base 33 1 (.slice (some ⟨g, 0, none⟩) m cap) m (nums .i16 (l.drop k)) ∧ ∃ q, (w.drewN q).grownBy w' (some g) := by
  obtain ⟨i0, hi0, hz⟩ := Option.map_eq_some_iff.1 info33
  simp only [Prod.mk.injEq] at hz
  have hsz := hz.2.1
  clear hz
  obtain ⟨hl, hcap, _, hcm, hcells⟩ := own_cells ho
  obtain ⟨X, hX⟩ := cut3 hi0 hsz (some ⟨g, 0, none⟩) n cap 0 k n (by omega) (by omega) (by omega) (by omega)
  have ht : ((0 : Int) == (k : Int)) = false := beq_eq_false_iff_ne.mpr (by omega)
  have hA : ∀ W, (Instr.slice 29 (.slice (some ⟨g, 0, none⟩) n cap) none (some (.int .i64 0)) none).run Try.prog W = .ok (.slice (some ⟨g, 0, none⟩) 0 cap) W := fun W => by
    have := cut_to 29 33 .i64 Try.underlying29 hi0 (some ⟨g, 0, none⟩) n cap 0 (by omega) (by omega) hcap W
    simpa using this
  obtain ⟨A2, hA2, hA3⟩ : ∃ A2, A2 = (if cap = k then (some ⟨g, 0, none⟩ : Option Addr) else some ⟨g, k, none⟩) ∧ ∀ W, (Instr.slice 29 (.slice (some ⟨g, 0, none⟩) n cap) (some (.int .i64 (k : Int))) none none).run Try.prog W = .ok (.slice A2 m (cap - k)) W := by
    refine ⟨_, rfl, fun W => ?_⟩
    have := cut_from 29 33 .i64 Try.underlying29 hi0 1 hsz (some ⟨g, 0, none⟩) n cap k (by omega) (by omega) W
    rw [this, Int.toNat_natCast, show n - k = m by omega]; simp [add_plain]
  have hS : ∀ W, (Instr.slice 29 (.slice (some ⟨g, 0, none⟩) m cap) (some (.int .i64 (m : Int))) (some (.int .i64 (n : Int))) none).run Try.prog W = .ok (.slice (some ⟨g, m, none⟩) (n - m) (cap - m)) W := fun W => by
    have hel : Try.prog.elem 29 = 33 := by simp [Program.elem, Try.underlying29]
    have hu : Try.prog.underlying 29 = some (.slice (Try.prog.elem 29)) := by rw [hel]; exact Try.underlying29
    rw [run_slice_lh W 29 (some ⟨g, 0, none⟩) m cap hu .i64 .i64 m n (by omega) (by omega) (by omega), hel]
    have : ¬ cap = m := by omega
    simp [sizeOf, typeInfo, hi0, hsz, sliced, Result.andThen, this, add_plain]
  have hnews : ∀ ad, A2 = some ad → ∀ j u, (nums .i16 (l.drop k))[j]? = some u → w.drew.cell? (ad.add j) = some u := by
    intro ad he j u hj
    rw [hA2] at he
    have hj2 : (nums .i16 l)[k + j]? = some u := by rw [nums, List.map_drop] at hj; rw [nums]; rw [List.getElem?_drop] at hj; exact hj
    have hlt : k + j < (nums .i16 l).length := (List.getElem?_eq_some_iff.1 hj2).1
    rw [nums_length] at hlt
    rw [if_neg (by omega)] at he
    obtain rfl := Option.some.inj he
    have := hcells (k + j) u hj2
    rw [add_at]
    exact this
  have hown0 : w.drew.ownsRow base 33 1 (.slice (some ⟨g, 0, none⟩) 0 cap) 0 [] := by
    have := own_take ho.drew (Nat.zero_le n)
    simpa using this
  have hd : (nums .i16 (l.drop k)).length = m * 1 := by rw [nums_length, List.length_drop]; omega
  have h1c : ∀ u ∈ nums .i16 (l.drop k), u.oneCell' = true := by
    intro u hu; rw [nums] at hu; obtain ⟨x, _, rfl⟩ := List.mem_map.1 hu; rfl
  have HS := Aside0.mk hS
  have HN := Aside0.mk hnews
  have HO0 := Aside0.mk hown0
  have HD := Aside0.mk hd
  have H1 := Aside0.mk h1c
  have HM := Aside0.mk hm
  have HK := Aside0.mk hk
  have HC := Aside0.mk hcap
  have HL := Aside0.mk hl
  have HA2 := Aside0.mk hA2
  clear hS hnews hown0 hd h1c hm hk hcap hl hcells hcm hA2 ho
  go_enter Try.func51, Try.ntmps51
  go_wp2
  go_still_tail 6, (by kernel_rfl)
  refine wpList_append_fits_any _ rfl (.tmp 22) (.tmp 25) 29 rfl base 33 i0 1 Try.underlying29 hi0 hsz g 0 cap [] rfl HO0.out A2 m (cap - k) (nums .i16 (l.drop k)) rfl HD.out (by intro e; have := HA2.out; rw [e] at this; split at this <;> cases this) HN.out H1.out (by have := HM.out; have := HC.out; omega) ?_
  intro w1 hown hg
  simp only [Nat.zero_add, List.nil_append] at hown
  obtain ⟨hcl, ho2, hg2⟩ := tail_clear (n := n) (l := l.drop k) (by have := HD.out; rw [nums_length, Nat.mul_one] at this; rw [this]; exact hown) (by have := HD.out; rw [nums_length, Nat.mul_one] at this; exact this) (by have := HM.out; have := HK.out; omega) HC.out
  have HO := Aside0.mk hown
  have HO2 := Aside0.mk ho2
  have HG := Aside0.mk hg
  have HG2 := Aside0.mk hg2
  have hS := HS.out
  clear hown hg ho2 hg2
  go_wp2_with (simp only [hcl])
  go_ret
  have hlen : (l.drop k).length = m := by have := HD.out; rw [nums_length, Nat.mul_one] at this; exact this
  exact ⟨rfl, by have h_ := HO2.out; rw [hlen] at h_; exact h_, 1, (show w.drew.grownBy _ _ from (HG.out.trans HG2.out))⟩
/-! ### pcm_Store_Put: function 16: more samples into a store -/
/-- What a call that turns block p and the row 'row' alone, and lays new blocks, leaves. -/
structure Chg (W w' : World) (p : Nat) (row : Option Nat) : Prop where
  os : w'.os = W.os
  tape : w'.tape = W.tape
  output : w'.output = W.output
  size : W.heap.size ≤ w'.heap.size
  block : ∀ i, i < W.heap.size → i ≠ p → some i ≠ row → w'.heap[i]? = W.heap[i]?
theorem Chg.drew (W : World) (n p : Nat) (row : Option Nat) : Chg W (W.drewN n) p row := ⟨rfl, rfl, rfl, Nat.le_refl _, fun _ _ _ _ => rfl⟩
theorem Chg.below {W w' w0 : World} {p base : Nat} {row : Option Nat} (h : Chg W w' p row) (hb : Below base w0 W) (hB : base ≤ W.heap.size) (hp : base ≤ p) (hr : ∀ k, row = some k → base ≤ k) : Below base w0 w' :=
  ⟨h.os.trans hb.os, h.tape.trans hb.tape, h.output.trans hb.output, Nat.le_trans hb.size h.size, fun i hi => (h.block i (by omega) (by omega) (by intro e; have := hr i e.symm; omega)).trans (hb.block i hi)⟩
theorem Chg.grown {W w1 : World} {p : Nat} {row : Option Nat} (n : Nat) (hg : (W.drewN n).grownBy w1 row) : Chg W w1 p row := ⟨hg.os, hg.tape, hg.output, hg.size, fun i hi _ hr => hg.block i hi (by exact hr)⟩
theorem Chg.set {W w1 : World} {p : Nat} {row : Option Nat} (h : Chg W w1 p row) (j : Nat) (u : Value) : Chg W (w1.setCell ⟨p, j, none⟩ u) p row := by
  have k : ∀ i, i ≠ p → (w1.setCell ⟨p, j, none⟩ u).heap[i]? = w1.heap[i]? := fun i hi => Below.heap_setCell w1 ⟨p, j, none⟩ u i hi
  have b := (KeepBut.refl w1 p none).set_ j u
  have a : Below 0 w1 (w1.setCell ⟨p, j, none⟩ u) := Below.setCell (Below.mono (Below.refl w1.heap.size w1) (Nat.zero_le _)) (p := ⟨p, j, none⟩) (Nat.zero_le _) u
  exact ⟨a.os.trans h.os, a.tape.trans h.tape, a.output.trans h.output, Nat.le_trans h.size b.1, fun i hi hp hr => (k i hp).trans (h.block i hi hp hr)⟩
theorem pcm_Put.full (base p : Nat) (most : Int) (l x : List Int) (v : Value) (A : Option Addr) (c : Nat) (W : World) (hB : base ≤ W.heap.size) (hs : W.heap[p]? = some (.cells #[.int .i64 most, v] 84 (0, 0))) (ho : W.ownsRow base 33 1 v l.length (nums .i16 l)) (hx : Kd.C (Kd.int .i16) W A x.length x) (h1 : (x.length : Int) > most - l.length) (hm : 0 ≤ most) (hm2 : most ≤ 4096) (hl : (l.length : Int) ≤ most) :
    Calls Try.prog 16 #[.pointer (some ⟨p, 0, none⟩), .slice A x.length c] W fun e w' => e = .returned (.int .i64 270) ∧ ∃ n, w' = W.drewN n := by
  obtain ⟨Av, cv, rfl⟩ := own_slice ho
  have c0 : W.cell? ⟨p, 0, none⟩ = some (.int .i64 most) := by simp [World.cell?, hs]
  have c1 : W.cell? ⟨p, 1, none⟩ = some (.slice Av l.length cv) := by simp [World.cell?, hs]
  have hw : IntKind.i64.wrap (most - (l.length : Int)) = most - (l.length : Int) := by rw [IntWalk.i64_in _ (by omega)]
  have t : decide (most - (l.length : Int) < (x.length : Int)) = true := decide_eq_true h1
  clear hs ho hx h1 hm hm2 hl
  go_enter Try.func16, Try.ntmps16
  go_wp2
  repeat (go_quiet (fail); try go_wp2)
  go_ret
  exact ⟨rfl, _, rfl⟩
set_option maxRecDepth 100000 in
theorem pcm_Put.put (base p : Nat) (most : Int) (l x : List Int) (v : Value) (A : Option Addr) (c : Nat) (W : World) (hB : base ≤ W.heap.size) (hs : W.heap[p]? = some (.cells #[.int .i64 most, v] 84 (0, 0))) (ho : W.ownsRow base 33 1 v l.length (nums .i16 l)) (hx : Kd.C (Kd.int .i16) W A x.length x) (h1 : ¬ (x.length : Int) > most - l.length) (hm : 0 ≤ most) (hm2 : most ≤ 4096) (hl : (l.length : Int) ≤ most) :
    Calls Try.prog 16 #[.pointer (some ⟨p, 0, none⟩), .slice A x.length c] W fun e w' => e = .returned (.int .i64 0) ∧ ∃ v', w'.heap[p]? = some (.cells #[.int .i64 most, v'] 84 (0, 0)) ∧ w'.ownsRow base 33 1 v' (l ++ x).length (nums .i16 (l ++ x)) ∧ (v'.ownBlock = v.ownBlock ∨ ∃ b, v'.ownBlock = some b ∧ W.heap.size ≤ b) ∧ Chg W w' p v.ownBlock := by
  obtain ⟨Av, cv, rfl⟩ := own_slice ho
  have c0 : W.cell? ⟨p, 0, none⟩ = some (.int .i64 most) := by simp [World.cell?, hs]
  have c1 : W.cell? ⟨p, 1, none⟩ = some (.slice Av l.length cv) := by simp [World.cell?, hs]
  have hw : IntKind.i64.wrap (most - (l.length : Int)) = most - (l.length : Int) := by rw [IntWalk.i64_in _ (by omega)]
  have t : decide (most - (l.length : Int) < (x.length : Int)) = false := decide_eq_false h1
  have HLen := Aside0.mk (show (l.length + x.length) * 2 ≤ 140737488355328 by omega)
  have HX := Aside0.mk (reads_int hx)
  have HO := Aside0.mk ho
  have HS := Aside0.mk hs
  have HB := Aside0.mk hB
  clear hs ho hx h1 hm hm2 hl hB
  go_enter Try.func16, Try.ntmps16
  go_wp2
  repeat (go_quiet (fail); try go_wp2_with (first | (at_builtin; refine print_append_row (w0 := W) (W := W.drewN _) base rfl (.tmp 26) (.tmp 27) 29 33 .i16 2 rfl Try.underlying29 info33 (by decide) _ l x A x.length c rfl rfl ?own ?reads ?below ?base ?len ?_)))
  case own => exact HO.out
  case reads => exact HX.out
  case below => exact pw_below_drewN (Below.refl _ _) _
  case base => exact HB.out
  case len => exact HLen.out
  intro v1 w1 hown hb hg halt
  have hpn : some p ≠ (Value.slice Av l.length cv).ownBlock := own_ne HO.out HS.out (by decide)
  have hp1 : w1.heap[p]? = some (.cells #[.int .i64 most, .slice Av l.length cv] 84 (0, 0)) := (hg.block p (blk_lt HS.out) hpn).trans HS.out
  have hv1 : some p ≠ v1.ownBlock := by
    rcases halt with e | ⟨b, e, hlt⟩
    · rw [e]; exact hpn
    · rw [e]; intro h; have h1 := Option.some.inj h; have h2 := blk_lt HS.out; have h3 : W.heap.size ≤ b := hlt; omega
  obtain ⟨A1, c1', rfl⟩ := own_slice hown
  have HOW := Aside0.mk hown
  have HG := Aside0.mk hg
  have HALT := Aside0.mk halt
  have HP1 := Aside0.mk hp1
  have HV1 := Aside0.mk hv1
  have d1 : w1.cell? ⟨p, 1, none⟩ = some (.slice Av l.length cv) := by simp [World.cell?, hp1]
  have d2 : w1.frozen? ⟨p, 1, none⟩ = false := blk_frozen hp1 1
  clear hown hb hg halt hp1 hv1 hpn
  go_wp2
  go_ret
  rw [List.length_append]
  refine ⟨rfl, .slice A1 (l.length + x.length) c1', ?_, own_setCell HOW.out HV1.out _, HALT.out, (Chg.grown _ HG.out).set 1 _⟩
  exact blk_set HP1.out 1 _
/-! ### pcm_Store_Take: function 18: the first ones out of a store -/
theorem made_nums (m : Nat) : (madeCells #[Value.int .i16 0] m).toList = nums .i16 (List.replicate m 0) := by
  apply List.ext_getElem
  · simp [nums, madeCells]
  · intro i h1 h2
    simp [nums, madeCells, Nat.mod_one]
/-- A row made here, with its block's cells all told. -/
theorem own_all {w : World} {base g m : Nat} {xs : List Int} (ho : w.ownsRow base 33 1 (.slice (some ⟨g, 0, none⟩) m m) m (nums .i16 xs)) : w.heap[g]? = some (.cells (nums .i16 xs).toArray 33 (0, 0)) := by
  obtain ⟨h1, h2⟩ := ho
  rcases h2 with ⟨h, _⟩ | ⟨g', cap', cur, h, hb, hh, hc, hcm, hs, ht⟩
  · simp at h
  · simp at h; obtain ⟨rfl, rfl⟩ := h
    rw [Nat.mul_one] at hs ht
    rw [List.take_of_length_le (by simp; omega)] at ht
    rw [hh, ← ht]
theorem own_of_all {w : World} {base g m : Nat} {xs : List Int} (hb : base ≤ g) (hm : xs.length = m) (hm2 : m ≤ 9223372036854775807) (h : w.heap[g]? = some (.cells (nums .i16 xs).toArray 33 (0, 0))) : w.ownsRow base 33 1 (.slice (some ⟨g, 0, none⟩) m m) xs.length (nums .i16 xs) :=
  ⟨by simp [nums], .inr ⟨g, m, (nums .i16 xs).toArray, by rw [hm], hb, h, by omega, by unfold maxLen; omega, by simp [nums]; omega, by rw [List.take_of_length_le (by simp [nums])]⟩⟩
set_option maxRecDepth 100000 in
theorem pcm_Take.take (base p m k cap g : Nat) (n most : Int) (l : List Int) (W : World) (hs : W.heap[p]? = some (.cells #[.int .i64 most, .slice (some ⟨g, 0, none⟩) l.length cap] 84 (0, 0))) (ho : W.ownsRow base 33 1 (.slice (some ⟨g, 0, none⟩) l.length cap) l.length (nums .i16 l))
    (hn : 0 < n) (hm1 : 1 ≤ m) (hm2 : m ≤ 4096) (hmin : (if (4096 : Int) < n then 4096 else n) = (m : Int)) (hk : k = min m l.length) (hk1 : 1 ≤ k) :
    Calls Try.prog 18 #[.pointer (some ⟨p, 0, none⟩), .int .i64 n] W fun e w' => ∃ vo, e = .returned vo ∧ Kd.R (Kd.int .i16) 33 w' W.heap.size (fun _ => True) vo (l.take k ++ List.replicate (m - k) 0) ∧ ∃ v', w'.heap[p]? = some (.cells #[.int .i64 most, v'] 84 (0, 0)) ∧ w'.ownsRow base 33 1 v' (l.drop k).length (nums .i16 (l.drop k)) ∧ v'.ownBlock = some g ∧ Chg W w' p (some g) := by
  obtain ⟨i0, hi0, hz⟩ := Option.map_eq_some_iff.1 info33
  simp only [Prod.mk.injEq] at hz
  obtain ⟨hz0, hsz, hby⟩ := hz
  obtain ⟨_, hcap, hbg, hcm, hcells⟩ := own_cells ho
  have hgl : g < W.heap.size := own_lt ho g (by simp [Value.ownBlock])
  have hpg : p ≠ g := by
    have := own_ne ho hs (by decide)
    intro e; exact this (by simp [Value.ownBlock, e])
  have hpl := blk_lt hs
  have c1 : W.cell? ⟨p, 1, none⟩ = some (.slice (some ⟨g, 0, none⟩) l.length cap) := by simp [World.cell?, hs]
  have t0 : decide (n ≤ 0) = false := decide_eq_false (by omega)
  have HB : Aside0 (Below W.heap.size W W) := ⟨Below.refl _ _⟩
  have HO := Aside0.mk ho
  have HS := Aside0.mk hs
  have HM := Aside0.mk (show 1 ≤ m ∧ m ≤ 4096 ∧ k = min m l.length ∧ 1 ≤ k ∧ l.length ≤ cap ∧ p < W.heap.size ∧ g < W.heap.size ∧ p ≠ g ∧ base ≤ g from ⟨hm1, hm2, hk, hk1, hcap, hpl, hgl, hpg, hbg⟩)
  have HCE := Aside0.mk hcells
  clear ho hs hm1 hm2 hk hk1 hcap hpl hgl hpg hbg hcm hcells hn
  go_enter Try.func18, Try.ntmps18
  go_wp2_with (first | (at_make; refine wpList_make_full _ rfl _ _ 29 rfl W.heap.size 33 i0 (.int .i16 0) 1 Try.underlying29 hi0 hz0 hsz _ _ _ _ m rfl rfl rfl rfl ?bytes ?maxl ?base ?_))
  case bytes => have := HM.out; (first | omega | (rw [hby]; omega))
  case maxl => have := HM.out; unfold maxLen; omega
  (try (case base => exact Nat.le_refl _))
  intro w1 hown1 hg1
  rw [made_nums] at hown1
  have HG1 := Aside0.mk (own_all hown1)
  have HB1 : Aside0 (Below W.heap.size W w1) := ⟨(Below.refl _ _).grown hg1 (Nat.le_refl _) (fun k e => by cases e)⟩
  clear hown1 hg1 c1
  have hp1 : w1.heap[p]? = some (.cells #[.int .i64 most, .slice (some ⟨g, 0, none⟩) l.length cap] 84 (0, 0)) := (HB1.out.block p (by have := HM.out; omega)).trans HS.out
  have c1 : w1.cell? ⟨p, 1, none⟩ = some (.slice (some ⟨g, 0, none⟩) l.length cap) := by simp [World.cell?, hp1]
  clear hp1
  obtain ⟨cs, hcs⟩ : ∃ cs, cs = nums .i16 (l.take k) := ⟨_, rfl⟩
  obtain ⟨mm, hmm⟩ : ∃ mm, mm + k = l.length := ⟨l.length - k, by have := HM.out; omega⟩
  have HMM := Aside0.mk hmm
  have HCS := Aside0.mk hcs
  have HCL : Aside0 (cs.length = k) := ⟨by rw [hcs, nums_length, List.length_take]; have := HM.out; omega⟩
  have HZ : Aside0 ((Try.prog.info? 33).map (·.size) = some 1) := ⟨by rw [hi0]; simp [hsz]⟩
  have HN : Aside0 (cs.length = Nat.min l.length m) := ⟨by rw [HCL.out]; have := HM.out; show k = min l.length m; omega⟩
  have HP : Aside0 (0 < cs.length → (some (⟨W.heap.size, 0, none⟩ : Addr)) = some ⟨W.heap.size, 0, none⟩ ∧ ∃ ad, (some (⟨g, 0, none⟩ : Addr)) = some ad ∧ ∀ j v, cs[j]? = some v → w1.cell? (ad.add j) = some v) := ⟨fun _ => ⟨rfl, _, rfl, fun j v hj => by
    rw [add_plain]
    refine (HB1.out.cell (p := ⟨g, j, none⟩) (by have := HM.out; show g < _; omega)).trans (HCE.out j v ?_)
    rw [hcs, nums, List.map_take, List.getElem?_take] at hj
    split at hj
    · exact hj
    · cases hj⟩⟩
  have HF : Aside0 (0 + cs.length ≤ (nums .i16 (List.replicate m 0)).length) := ⟨by rw [HCL.out, nums_length, List.length_replicate]; have := HM.out; omega⟩
  have H1 : Aside0 (∀ v ∈ cs, v.oneCell' = true) := ⟨by intro u hu; rw [hcs, nums] at hu; obtain ⟨x, _, rfl⟩ := List.mem_map.1 hu; rfl⟩
  clear hcs hmm
  have ho1 : Aside0 (W.ownsRow base 33 1 (.slice (some ⟨g, 0, none⟩) l.length cap) l.length (nums .i16 l)) := HO
  go_wp2_with (first | ((with_reducible refine gate_builtin (b := .copy) rfl ?_); refine wpList_copy_splice rfl (.tmp 16) (.tmp 20) 29 29 rfl 33 Try.underlying29 HZ.out (some ⟨W.heap.size, 0, none⟩) (some ⟨g, 0, none⟩) m m l.length cap rfl rfl W.heap.size 0 (nums .i16 (List.replicate m 0)) 33 HG1.out cs HN.out HP.out HF.out H1.out W.heap.size W HB1.out (Nat.le_refl _) ?_; intro w2 hh2 hb2; rw [HCL.out]; have HH2 := Aside0.mk hh2; have HB2 := Aside0.mk hb2; have c2 : w2.cell? ⟨p, 1, none⟩ = some (.slice (some ⟨g, 0, none⟩) l.length cap) := (by have h_ := (hb2.block p (by have := HM.out; omega)).trans HS.out; simp [World.cell?, h_]); clear hh2 hb2) | (go_at_call 51; refine (slices_Delete.calls base g cap l.length mm k l _ (own_move HO.out (fun j hj => HB2.out.block j (by have := HM.out; simp [Value.ownBlock] at hj; omega))) (by have := HM.out; omega) HMM.out).mono ?_; rintro e w3 ⟨rfl, ho3, q, hg3⟩; have HO3 := Aside0.mk ho3; have HG3 := Aside0.mk hg3; have hp3 : w3.heap[p]? = some (.cells #[.int .i64 most, .slice (some ⟨g, 0, none⟩) l.length cap] 84 (0, 0)) := (hg3.block p (by have h_ := HB2.out.size; have := HM.out; show p < w2.heap.size; omega) (by have := HM.out; intro e; have e2 := Option.some.inj e; omega)).trans ((HB2.out.block p (by have := HM.out; omega)).trans HS.out); have HP3 := Aside0.mk hp3; have d1 : w3.cell? ⟨p, 1, none⟩ = some (.slice (some ⟨g, 0, none⟩) l.length cap) := (by simp [World.cell?, hp3]); have d2 : w3.frozen? ⟨p, 1, none⟩ = false := blk_frozen hp3 1; clear ho3 hg3 hp3))
  go_ret
  have hM := HM.out
  have hgo : (w3.setCell ⟨p, 1, none⟩ (.slice (some ⟨g, 0, none⟩) mm cap)).heap[W.heap.size]? = some (.cells (nums .i16 (l.take k ++ List.replicate (m - k) 0)).toArray 33 (0, 0)) := by
    rw [Below.heap_setCell w3 ⟨p, 1, none⟩ _ _ (by show W.heap.size ≠ p; omega)]
    refine (HG3.out.block _ (blk_lt HH2.out) (by intro e; have e2 := Option.some.inj e; omega)).trans ?_
    have h2 : w2.heap[W.heap.size]? = _ := HH2.out
    show w2.heap[W.heap.size]? = _
    rw [h2, HCS.out]
    congr 3
    unfold splice
    simp [nums]
    have : min k l.length = k := by omega
    rw [this]
  have hlen : (l.take k ++ List.replicate (m - k) 0).length = m := by simp; omega
  have hdrop : (l.drop k).length = mm := by have := HMM.out; rw [List.length_drop]; omega
  refine ⟨_, rfl, Kd.R_of_own (own_of_all (Nat.le_refl _) hlen (by omega) hgo) (fun _ _ => trivial), .slice (some ⟨g, 0, none⟩) mm cap, blk_set HP3.out 1 _, ?_, by simp [Value.ownBlock], ?_⟩
  · rw [hdrop]
    exact own_setCell HO3.out (by intro e; simp [Value.ownBlock] at e; omega) _
  · refine Chg.set ⟨HG3.out.os.trans HB2.out.os, HG3.out.tape.trans HB2.out.tape, HG3.out.output.trans HB2.out.output, Nat.le_trans HB2.out.size HG3.out.size, fun i hi hp hg => ?_⟩ 1 _
    exact (HG3.out.block i (Nat.lt_of_lt_of_le hi HB2.out.size) hg).trans (HB2.out.block i hi)
/-! ### psalterylaw10_alive: function 14 -/
def psalterylaw10_alive.f (k : Nat)  : Option (Bool) := (pcm_Part.f k (([1, 2, 3, 4] : List Int)) 2).bind fun bt115 => (if bt115.2 = 0 then (if (bt115.1.length : Int) = 2 then (if 0 < (bt115.1.length : Int) then ((psalteryref04_Same.f k (rd_L1 bt115.1 0) (([1, 3] : List Int))).bind fun t123 => (if t123 = true then (if 1 < (bt115.1.length : Int) then ((psalteryref04_Same.f k (rd_L1 bt115.1 1) (([2, 4] : List Int))).bind fun t128 => (if t128 = true then (if 0 = 0 then ((psalteryref04_Same.f k (([5, 0] : List Int)) (([5, 0] : List Int))).bind fun t138 => (some t138)) else (none)) else (none))) else (none)) else (none))) else (none)) else (none)) else (none))
theorem psalterylaw10_alive.mono : ∀ k, LeO (psalterylaw10_alive.f k ) (psalterylaw10_alive.f (k + 1) ) := by
  intro  k
  unfold psalterylaw10_alive.f
  repeat' first
      | (with_reducible exact pcm_Part.mono _ _ _)
      | (with_reducible exact psalteryref04_Same.mono _ _ _)
      | (with_reducible exact LeO.refl _)
      | (with_reducible exact LeO.none _)
      | (with_reducible refine LeO.ite ?_ ?_)
      | (with_reducible refine LeO.bind ?_ (fun _ => ?_))
      | exact pcm_Part.mono _ _ _
      | exact psalteryref04_Same.mono _ _ _
      | exact LeO.none _
      | refine LeO.ite ?_ ?_
      | refine LeO.bind ?_ (fun _ => ?_)
set_option maxHeartbeats 8000000 in
set_option maxRecDepth 100000 in
theorem psalterylaw10_alive.calls (k : Nat)  (r : Bool) (w : World) (h : psalterylaw10_alive.f k  = some r) :
    Calls Try.prog 14 #[] w fun e w' => e = .returned (.bool r) ∧ Below w.heap.size w w' := by
  have HB := Aside0.mk (Below.refl w.heap.size w)
  have H : ((pcm_Part.f k (([1, 2, 3, 4] : List Int)) 2).bind fun bt115 => (if bt115.2 = 0 then (if (bt115.1.length : Int) = 2 then (if 0 < (bt115.1.length : Int) then ((psalteryref04_Same.f k (rd_L1 bt115.1 0) (([1, 3] : List Int))).bind fun t123 => (if t123 = true then (if 1 < (bt115.1.length : Int) then ((psalteryref04_Same.f k (rd_L1 bt115.1 1) (([2, 4] : List Int))).bind fun t128 => (if t128 = true then (if 0 = 0 then ((psalteryref04_Same.f k (([5, 0] : List Int)) (([5, 0] : List Int))).bind fun t138 => (some t138)) else (none)) else (none))) else (none)) else (none))) else (none)) else (none)) else (none))) = some r := h
  clear h
  obtain ⟨y112, hy112⟩ : ∃ y_ : List Int, y_ = (([1, 2, 3, 4] : List Int)) := ⟨_, rfl⟩
  replace H : ((pcm_Part.f k y112 2).bind fun bt115 => (if bt115.2 = 0 then (if (bt115.1.length : Int) = 2 then (if 0 < (bt115.1.length : Int) then ((psalteryref04_Same.f k (rd_L1 bt115.1 0) (([1, 3] : List Int))).bind fun t123 => (if t123 = true then (if 1 < (bt115.1.length : Int) then ((psalteryref04_Same.f k (rd_L1 bt115.1 1) (([2, 4] : List Int))).bind fun t128 => (if t128 = true then (if 0 = 0 then ((psalteryref04_Same.f k (([5, 0] : List Int)) (([5, 0] : List Int))).bind fun t138 => (some t138)) else (none)) else (none))) else (none)) else (none))) else (none)) else (none)) else (none))) = some r := by first | (rw [hy112]; with_reducible exact H) | (have H2_ := (Option.bind_some _ _).symm.trans H; rw [hy112]; with_reducible exact H2_) | (have H2_ := (Option.bind_some _ _).symm.trans H; with_reducible exact H2_) | with_reducible exact H | (rw [hy112]; exact H) | exact H
  have Ny112 := Aside0.mk hy112
  clear hy112
  replace H := Option.bind_eq_some_iff.mp H
  obtain ⟨⟨t115, t116⟩, A10, H⟩ := H
  replace H : (if t116 = 0 then (if (t115.length : Int) = 2 then (if 0 < (t115.length : Int) then ((psalteryref04_Same.f k (rd_L1 t115 0) (([1, 3] : List Int))).bind fun t123 => (if t123 = true then (if 1 < (t115.length : Int) then ((psalteryref04_Same.f k (rd_L1 t115 1) (([2, 4] : List Int))).bind fun t128 => (if t128 = true then (if 0 = 0 then ((psalteryref04_Same.f k (([5, 0] : List Int)) (([5, 0] : List Int))).bind fun t138 => (some t138)) else (none)) else (none))) else (none)) else (none))) else (none)) else (none)) else (none)) = some r := H
  have A1 := Aside0.mk A10
  clear A10
  by_cases c2 : t116 = 0
  · rw [if_pos c2] at H
    have c2b0 : (t116 == 0) = true := beq_iff_eq.mpr c2
    have c2b1 : (t116 != 0) = false := bne_eq_false_iff_eq.mpr c2
    clear c2
    by_cases c3 : (t115.length : Int) = 2
    · rw [if_pos c3] at H
      have c3b0 : ((t115.length : Int) == 2) = true := beq_iff_eq.mpr c3
      have c3b1 : ((t115.length : Int) != 2) = false := bne_eq_false_iff_eq.mpr c3
      clear c3
      by_cases c4 : 0 < (t115.length : Int)
      · rw [if_pos c4] at H
        have c4b0 : decide (0 < (t115.length : Int)) = true := decide_eq_true c4
        have c4b1 : decide (0 < t115.length) = true := decide_eq_true (by omega)
        clear c4
        obtain ⟨y120, hy120⟩ : ∃ y_ : List Int, y_ = (([1, 3] : List Int)) := ⟨_, rfl⟩
        replace H : ((psalteryref04_Same.f k (rd_L1 t115 0) y120).bind fun t123 => (if t123 = true then (if 1 < (t115.length : Int) then ((psalteryref04_Same.f k (rd_L1 t115 1) (([2, 4] : List Int))).bind fun t128 => (if t128 = true then (if 0 = 0 then ((psalteryref04_Same.f k (([5, 0] : List Int)) (([5, 0] : List Int))).bind fun t138 => (some t138)) else (none)) else (none))) else (none)) else (none))) = some r := by first | (rw [hy120]; with_reducible exact H) | (have H2_ := (Option.bind_some _ _).symm.trans H; rw [hy120]; with_reducible exact H2_) | (have H2_ := (Option.bind_some _ _).symm.trans H; with_reducible exact H2_) | with_reducible exact H | (rw [hy120]; exact H) | exact H
        have Ny120 := Aside0.mk hy120
        clear hy120
        replace H := Option.bind_eq_some_iff.mp H
        obtain ⟨t123, A50, H⟩ := H
        replace H : (if t123 = true then (if 1 < (t115.length : Int) then ((psalteryref04_Same.f k (rd_L1 t115 1) (([2, 4] : List Int))).bind fun t128 => (if t128 = true then (if 0 = 0 then ((psalteryref04_Same.f k (([5, 0] : List Int)) (([5, 0] : List Int))).bind fun t138 => (some t138)) else (none)) else (none))) else (none)) else (none)) = some r := H
        have A5 := Aside0.mk A50
        clear A50
        by_cases c6 : t123 = true
        · subst c6
          have H1 : (if 1 < (t115.length : Int) then ((psalteryref04_Same.f k (rd_L1 t115 1) (([2, 4] : List Int))).bind fun t128 => (if t128 = true then (if 0 = 0 then ((psalteryref04_Same.f k (([5, 0] : List Int)) (([5, 0] : List Int))).bind fun t138 => (some t138)) else (none)) else (none))) else (none)) = some r := by rw [if_pos rfl] at H; exact H
          clear H
          have H := H1
          clear H1
          by_cases c7 : 1 < (t115.length : Int)
          · rw [if_pos c7] at H
            have c7b0 : decide (1 < (t115.length : Int)) = true := decide_eq_true c7
            have c7b1 : decide (1 < t115.length) = true := decide_eq_true (by omega)
            clear c7
            obtain ⟨y125, hy125⟩ : ∃ y_ : List Int, y_ = (([2, 4] : List Int)) := ⟨_, rfl⟩
            replace H : ((psalteryref04_Same.f k (rd_L1 t115 1) y125).bind fun t128 => (if t128 = true then (if 0 = 0 then ((psalteryref04_Same.f k (([5, 0] : List Int)) (([5, 0] : List Int))).bind fun t138 => (some t138)) else (none)) else (none))) = some r := by first | (rw [hy125]; with_reducible exact H) | (have H2_ := (Option.bind_some _ _).symm.trans H; rw [hy125]; with_reducible exact H2_) | (have H2_ := (Option.bind_some _ _).symm.trans H; with_reducible exact H2_) | with_reducible exact H | (rw [hy125]; exact H) | exact H
            have Ny125 := Aside0.mk hy125
            clear hy125
            replace H := Option.bind_eq_some_iff.mp H
            obtain ⟨t128, A80, H⟩ := H
            replace H : (if t128 = true then (if 0 = 0 then ((psalteryref04_Same.f k (([5, 0] : List Int)) (([5, 0] : List Int))).bind fun t138 => (some t138)) else (none)) else (none)) = some r := H
            have A8 := Aside0.mk A80
            clear A80
            by_cases c9 : t128 = true
            · subst c9
              have H1 : (if 0 = 0 then ((psalteryref04_Same.f k (([5, 0] : List Int)) (([5, 0] : List Int))).bind fun t138 => (some t138)) else (none)) = some r := by rw [if_pos rfl] at H; exact H
              clear H
              have H := H1
              clear H1
              by_cases c10 : 0 = 0
              · rw [if_pos c10] at H
                have c10b0 : (0 == 0) = true := beq_iff_eq.mpr c10
                have c10b1 : (0 != 0) = false := bne_eq_false_iff_eq.mpr c10
                clear c10
                obtain ⟨y129, hy129⟩ : ∃ y_ : List Int, y_ = (([5] : List Int)) := ⟨_, rfl⟩
                replace H : ((psalteryref04_Same.f k (([5, 0] : List Int)) (([5, 0] : List Int))).bind fun t138 => (some t138)) = some r := by first | (rw [hy129]; with_reducible exact H) | (have H2_ := (Option.bind_some _ _).symm.trans H; rw [hy129]; with_reducible exact H2_) | (have H2_ := (Option.bind_some _ _).symm.trans H; with_reducible exact H2_) | with_reducible exact H | (rw [hy129]; exact H) | exact H
                have Ny129 := Aside0.mk hy129
                clear hy129
                obtain ⟨y132, hy132⟩ : ∃ y_ : List Int, y_ = (([5, 0] : List Int)) := ⟨_, rfl⟩
                replace H : ((psalteryref04_Same.f k y132 (([5, 0] : List Int))).bind fun t138 => (some t138)) = some r := by first | (rw [hy132]; with_reducible exact H) | (have H2_ := (Option.bind_some _ _).symm.trans H; rw [hy132]; with_reducible exact H2_) | (have H2_ := (Option.bind_some _ _).symm.trans H; with_reducible exact H2_) | with_reducible exact H | (rw [hy132]; exact H) | exact H
                have Ny132 := Aside0.mk hy132
                clear hy132
                obtain ⟨y135, hy135⟩ : ∃ y_ : List Int, y_ = (([5, 0] : List Int)) := ⟨_, rfl⟩
                replace H : ((psalteryref04_Same.f k y132 y135).bind fun t138 => (some t138)) = some r := by first | (rw [hy135]; with_reducible exact H) | (have H2_ := (Option.bind_some _ _).symm.trans H; rw [hy135]; with_reducible exact H2_) | (have H2_ := (Option.bind_some _ _).symm.trans H; with_reducible exact H2_) | with_reducible exact H | (rw [hy135]; exact H) | exact H
                have Ny135 := Aside0.mk hy135
                clear hy135
                replace H := Option.bind_eq_some_iff.mp H
                obtain ⟨t138, A110, H⟩ := H
                replace H : (some t138) = some r := H
                have A11 := Aside0.mk A110
                clear A110
                obtain rfl := Option.some.inj H
                go_enter Try.func14, Try.ntmps14
                go_wp2_with (first | ((with_reducible refine gate_dst (N := 6) rfl ?_); (try (refine gate_guard (by rfl) ?_; dsimp only)); refine Kd.R_lit (Kd.int .i16) _ 33 ?hg (N := 6) ?hd (xs := ([1, 2, 3, 4] : List Int)) (inner := [.int .i16 1, .int .i16 2, .int .i16 3, .int .i16 4]) (ok := fun _ => True) (okp := fun _ => True) ?hr ?hp (fun _ hk => hk) trivial (Below.refl _ _) (Nat.le_refl _) (by simp) ?_; (case hd => rfl); (case hg => rfl); (case hr => first | (go_simp; done) | (go_simp; rfl)); (case hp => exact (Reps.one (show Kd.M (Kd.int .i16) _ _ _ 1 [.int .i16 1] from rfl) (Reps.one (show Kd.M (Kd.int .i16) _ _ _ 2 [.int .i16 2] from rfl) (Reps.one (show Kd.M (Kd.int .i16) _ _ _ 3 [.int .i16 3] from rfl) (Reps.one (show Kd.M (Kd.int .i16) _ _ _ 4 [.int .i16 4] from rfl) (Reps.none _ _)))))); intro v113 w12 ho13 hb hg_ hnew_; clear hg_ hnew_; (first | rw [← Ny112.out] at ho13 | (simp only [Int.reduceToNat] at ho13; rw [← Ny112.out] at ho13)); have n0_ := Aside0.mk (Kd.R_lower ho13 (below_size (by repeat (first | (with_reducible first | exact HB.out | apply below_alloc | apply pw_below_drewN | apply below_drew1) | exact HB.out)))); have n1_ := Aside0.mk (below_step (by repeat (first | (with_reducible first | exact HB.out | apply below_alloc | apply pw_below_drewN | apply below_drew1) | exact HB.out)) hb); clear HB; have HO114 := n0_; have HB := n1_; clear n0_ n1_; clear hb ho13; obtain ⟨Ao14, co14, eo14⟩ := Kd.R_slice HO114.out; subst eo14) | ((with_reducible refine gate_callee (f := 37) rfl ?_); refine goesL_ (some 7) rfl rfl Try.func37 (by kernel_rfl) rfl #[.slice Ao14 y112.length co14, .int .i64 2] rfl (by (try simp only [List.map_toArray, List.map_cons, List.map_nil]); first | done | rfl | (simp only [List.length_drop, List.length_take]; rfl)) ?_; (with_reducible refine (pcm_Part.calls k _ _ y112 2 t115 t116 _ ?side1 ?side2 A1.out).mono ?_); (case side1 => repeat (first | exact (Kd.R_reads' HO114.out).2.2 | (with_reducible refine Kd.C_alloc ?_ _) | (with_reducible refine Kd.C_drewN ?_ _) | (with_reducible refine Kd.C_drew ?_))); (case side2 => exact (Kd.R_reads' HO114.out).2.1); rintro e w15 ⟨v117, rfl, ho0, hb⟩; refine ⟨_, rfl, ?_⟩; have n0_ := Aside0.mk (Kd.R_below (by (with_reducible repeat (first | apply Kd.R_alloc | apply Kd.R_drewN | apply Kd.R_drew)); exact HO114.out) hb); have n1_ := Aside0.mk (Kd.S_lower (Kd.S_new' ho0 (Kd.R_lt (by (with_reducible repeat (first | apply Kd.R_alloc | apply Kd.R_drewN | apply Kd.R_drew)); exact HO114.out))) (below_size (by repeat (first | (with_reducible first | exact HB.out | apply below_alloc | apply pw_below_drewN | apply below_drew1) | exact HB.out)))); have n2_ := Aside0.mk (below_step (by repeat (first | (with_reducible first | exact HB.out | apply below_alloc | apply pw_below_drewN | apply below_drew1) | exact HB.out)) hb); clear HO114; clear HB; have HO114 := n0_; have HO118 := n1_; have HB := n2_; clear n0_ n1_ n2_; (try clear hb); (try clear hb2); (try clear hk); (try clear hi); (try clear ho0); obtain ⟨Ao16, co16, eo16⟩ := Kd.S_slice HO118.out; subst eo16; have p119 : 0 ≤ (0 : Int) := (by omega); have q119 : 0 < (t115.length : Int) := of_decide_eq_true (by first | (with_reducible assumption) | assumption); obtain ⟨ad119, A119_0, c119_0, e119, hx119_0, hl119_0, hi119_0⟩ := at_L1 (Kd.S_reads' HO118.out).2.2 0 p119 q119; cases e119; obtain ⟨ce119, hce119, hMe119, hcc119⟩ := Kd.S_get HO118.out [] 0 p119 (by first | exact q119 | exact of_decide_eq_true (by first | (with_reducible assumption) | assumption) | (have e_ := (Kd.S_reads' HO118.out).1; omega)); obtain ⟨ve119_0, rfl, ge119_0⟩ := hMe119; have hv119_0 := hcc119 0 _ rfl; rw [Nat.add_zero, show ((Kd.slice 33 (Kd.int .i16))).sz = 1 from rfl, Nat.mul_one] at hv119_0; replace hv119_0 := Option.some.inj (hv119_0.symm.trans hx119_0); rw [hv119_0] at ge119_0; have HL119_0 := Aside0.mk (show Kd.R (Kd.int .i16) 33 _ _ _ _ (rd_L1 t115 0) from ge119_0); clear hv119_0 ge119_0; clear hcc119 hce119; have qi119 : (0 < t115.length) = True := eq_true (by omega); (try rw [show ((0 : Int)).toNat = 0 from rfl] at hx119_0); (try rw [Addr.add_zero'] at hx119_0); have HR119_0 := Aside0.mk hi119_0; have HC119_0 := Aside0.mk hl119_0; clear hi119_0 hl119_0; replace p119 := eq_true p119; replace q119 := eq_true q119) | (go_at_call 15; refine (pcm_NewStore.calls 2 (by decide) (by decide) _).mono ?_; rintro e wN ⟨pS, rfl, hst, hge, hb⟩; have n0_ := Aside0.mk (Kd.R_below HO114.out hb); have n1_ := Aside0.mk (Kd.S_below HO118.out hb); have n2_ := Aside0.mk (Kd.R_below HL119_0.out hb); have n3_ := Aside0.mk (Kd.C_below HR119_0.out hb); have n4_ := Aside0.mk (below_step HB.out hb); have n5_ := Aside0.mk hst; have n6_ := Aside0.mk (Nat.le_trans (below_size HB.out) hge); have n7_ := (hb.cell (World.block_lt_of_cell? _ _ hx119_0)).trans hx119_0; clear HO114 HO118 HL119_0 HR119_0 HB hx119_0 hst hge hb; have HO114 := n0_; have HO118 := n1_; have HL119_0 := n2_; have HR119_0 := n3_; have HB := n4_; have HST := n5_; have HPG := n6_; have hx119_0 := n7_; clear n0_ n1_ n2_ n3_ n4_ n5_ n6_ n7_) | ((with_reducible refine gate_dst (N := 25) rfl ?_); (try (refine gate_guard (by rfl) ?_; dsimp only)); refine Kd.R_lit (Kd.int .i16) _ 33 ?hg (N := 25) ?hd (xs := ([1, 3] : List Int)) (inner := [.int .i16 1, .int .i16 3]) (ok := fun _ => True) (okp := fun _ => True) ?hr ?hp (fun _ hk => hk) trivial (Below.refl _ _) (Nat.le_refl _) (by simp) ?_; (case hd => rfl); (case hg => rfl); (case hr => first | (go_simp; done) | (go_simp; rfl)); (case hp => exact (Reps.one (show Kd.M (Kd.int .i16) _ _ _ 1 [.int .i16 1] from rfl) (Reps.one (show Kd.M (Kd.int .i16) _ _ _ 3 [.int .i16 3] from rfl) (Reps.none _ _)))); intro v121 w17 ho18 hb hg_ hnew_; clear hg_ hnew_; (first | rw [← Ny120.out] at ho18 | (simp only [Int.reduceToNat] at ho18; rw [← Ny120.out] at ho18)); have n0_ := Aside0.mk (Kd.R_elder' (by (with_reducible repeat (first | apply Kd.R_alloc | apply Kd.R_drewN | apply Kd.R_drew)); exact HO114.out) (Kd.R_base ho18) hb); have n1_ := Aside0.mk (Kd.S_elder' (by (with_reducible repeat (first | apply Kd.S_alloc | apply Kd.S_drewN | apply Kd.S_drew)); exact HO118.out) (Kd.R_base ho18) hb); have n2_ := Aside0.mk (Kd.R_elder' (by (with_reducible repeat (first | apply Kd.R_alloc | apply Kd.R_drewN | apply Kd.R_drew)); exact HL119_0.out) (Kd.R_base ho18) hb); have n3_ := Aside0.mk (Kd.R_lower (Kd.R_new' (Kd.R_new' ho18 (Kd.R_lt (by (with_reducible repeat (first | apply Kd.R_alloc | apply Kd.R_drewN | apply Kd.R_drew)); exact HO114.out))) (Kd.R_lt (by (with_reducible repeat (first | apply Kd.R_alloc | apply Kd.R_drewN | apply Kd.R_drew)); exact HL119_0.out))) (below_size (by repeat (first | (with_reducible first | exact HB.out | apply below_alloc | apply pw_below_drewN | apply below_drew1) | exact HB.out)))); have n4_ := Aside0.mk (Kd.C_below (by repeat (first | (with_reducible exact HR119_0.out) | (with_reducible refine Kd.C_alloc ?_ _) | (with_reducible refine Kd.C_drewN ?_ _) | (with_reducible refine Kd.C_drew ?_) | exact HR119_0.out)) hb); have n5_ := Aside0.mk (below_step (by repeat (first | (with_reducible first | exact HB.out | apply below_alloc | apply pw_below_drewN | apply below_drew1) | exact HB.out)) hb); have st_ := Aside0.mk ((hb.block pS (blk_lt HST.out)).trans HST.out); clear HST; have HST := st_; clear st_; clear HO114; clear HO118; clear HL119_0; clear HR119_0; clear HB; have HO114 := n0_; have HO118 := n1_; have HL119_0 := n2_; have HO122 := n3_; have HR119_0 := n4_; have HB := n5_; clear n0_ n1_ n2_ n3_ n4_ n5_; clear hb ho18; obtain ⟨Ao19, co19, eo19⟩ := Kd.R_slice HO122.out; subst eo19) | (go_at_call 19; (with_reducible refine (psalteryref04_Same.calls k _ _ (rd_L1 t115 0) _ _ y120 true _ ?side1 ?side2 ?side3 ?side4 A5.out).mono ?_); (case side1 => repeat (first | exact (by repeat (first | (with_reducible exact HR119_0.out) | (with_reducible refine Kd.C_alloc ?_ _) | (with_reducible refine Kd.C_drewN ?_ _) | (with_reducible refine Kd.C_drew ?_) | exact HR119_0.out)) | (with_reducible refine Kd.C_alloc ?_ _) | (with_reducible refine Kd.C_drewN ?_ _) | (with_reducible refine Kd.C_drew ?_))); (case side2 => exact HC119_0.out); (case side3 => repeat (first | exact (Kd.R_reads' HO122.out).2.2 | (with_reducible refine Kd.C_alloc ?_ _) | (with_reducible refine Kd.C_drewN ?_ _) | (with_reducible refine Kd.C_drew ?_))); (case side4 => exact (Kd.R_reads' HO122.out).2.1); rintro e w' ⟨rfl, ⟨nd, rfl⟩⟩; have p124 : 0 ≤ (1 : Int) := (by omega); have q124 : 1 < (t115.length : Int) := of_decide_eq_true (by first | (with_reducible assumption) | assumption); obtain ⟨ad124, A124_0, c124_0, e124, hx124_0, hl124_0, hi124_0⟩ := at_L1 (Kd.S_reads' HO118.out).2.2 1 p124 q124; obtain rfl : ad119 = ad124 := (by injection e124); obtain ⟨ce124, hce124, hMe124, hcc124⟩ := Kd.S_get HO118.out [] 1 p124 (by first | exact q124 | exact of_decide_eq_true (by first | (with_reducible assumption) | assumption) | (have e_ := (Kd.S_reads' HO118.out).1; omega)); obtain ⟨ve124_0, rfl, ge124_0⟩ := hMe124; have hv124_0 := hcc124 0 _ rfl; rw [Nat.add_zero, show ((Kd.slice 33 (Kd.int .i16))).sz = 1 from rfl, Nat.mul_one] at hv124_0; replace hv124_0 := Option.some.inj (hv124_0.symm.trans hx124_0); rw [hv124_0] at ge124_0; have HL124_0 := Aside0.mk (show Kd.R (Kd.int .i16) 33 _ _ _ _ (rd_L1 t115 1) from ge124_0); clear hv124_0 ge124_0; clear hcc124 hce124; (try simp only [show (1 : Int).toNat = 1 from rfl, Nat.reduceMul, Nat.reduceEqDiff, Go.Addr.add, ↓reduceIte] at hx124_0); have qi124 : (1 < t115.length) = True := eq_true (by omega); (try rw [show ((1 : Int)).toNat = 1 from rfl] at hx124_0); have HR124_0 := Aside0.mk hi124_0; have HC124_0 := Aside0.mk hl124_0; clear hi124_0 hl124_0; replace p124 := eq_true p124; replace q124 := eq_true q124) | ((with_reducible refine gate_dst (N := 32) rfl ?_); (try (refine gate_guard (by rfl) ?_; dsimp only)); refine Kd.R_lit (Kd.int .i16) _ 33 ?hg (N := 32) ?hd (xs := ([2, 4] : List Int)) (inner := [.int .i16 2, .int .i16 4]) (ok := fun _ => True) (okp := fun _ => True) ?hr ?hp (fun _ hk => hk) trivial (Below.refl _ _) (Nat.le_refl _) (by simp) ?_; (case hd => rfl); (case hg => rfl); (case hr => first | (go_simp; done) | (go_simp; rfl)); (case hp => exact (Reps.one (show Kd.M (Kd.int .i16) _ _ _ 2 [.int .i16 2] from rfl) (Reps.one (show Kd.M (Kd.int .i16) _ _ _ 4 [.int .i16 4] from rfl) (Reps.none _ _)))); intro v126 w20 ho21 hb hg_ hnew_; clear hg_ hnew_; (first | rw [← Ny125.out] at ho21 | (simp only [Int.reduceToNat] at ho21; rw [← Ny125.out] at ho21)); have n0_ := Aside0.mk (Kd.R_elder' (by (with_reducible repeat (first | apply Kd.R_alloc | apply Kd.R_drewN | apply Kd.R_drew)); exact HO114.out) (Kd.R_base ho21) hb); have n1_ := Aside0.mk (Kd.S_elder' (by (with_reducible repeat (first | apply Kd.S_alloc | apply Kd.S_drewN | apply Kd.S_drew)); exact HO118.out) (Kd.R_base ho21) hb); have n2_ := Aside0.mk (Kd.R_elder' (by (with_reducible repeat (first | apply Kd.R_alloc | apply Kd.R_drewN | apply Kd.R_drew)); exact HL119_0.out) (Kd.R_base ho21) hb); have n3_ := Aside0.mk (Kd.R_elder' (by (with_reducible repeat (first | apply Kd.R_alloc | apply Kd.R_drewN | apply Kd.R_drew)); exact HO122.out) (Kd.R_base ho21) hb); have n4_ := Aside0.mk (Kd.R_elder' (by (with_reducible repeat (first | apply Kd.R_alloc | apply Kd.R_drewN | apply Kd.R_drew)); exact HL124_0.out) (Kd.R_base ho21) hb); have n5_ := Aside0.mk (Kd.R_lower (Kd.R_new' (Kd.R_new' (Kd.R_new' (Kd.R_new' ho21 (Kd.R_lt (by (with_reducible repeat (first | apply Kd.R_alloc | apply Kd.R_drewN | apply Kd.R_drew)); exact HO114.out))) (Kd.R_lt (by (with_reducible repeat (first | apply Kd.R_alloc | apply Kd.R_drewN | apply Kd.R_drew)); exact HL119_0.out))) (Kd.R_lt (by (with_reducible repeat (first | apply Kd.R_alloc | apply Kd.R_drewN | apply Kd.R_drew)); exact HO122.out))) (Kd.R_lt (by (with_reducible repeat (first | apply Kd.R_alloc | apply Kd.R_drewN | apply Kd.R_drew)); exact HL124_0.out))) (below_size (by repeat (first | (with_reducible first | exact HB.out | apply below_alloc | apply pw_below_drewN | apply below_drew1) | exact HB.out)))); have n6_ := Aside0.mk (Kd.C_below (by repeat (first | (with_reducible exact HR119_0.out) | (with_reducible refine Kd.C_alloc ?_ _) | (with_reducible refine Kd.C_drewN ?_ _) | (with_reducible refine Kd.C_drew ?_) | exact HR119_0.out)) hb); have n7_ := Aside0.mk (Kd.C_below (by repeat (first | (with_reducible exact HR124_0.out) | (with_reducible refine Kd.C_alloc ?_ _) | (with_reducible refine Kd.C_drewN ?_ _) | (with_reducible refine Kd.C_drew ?_) | exact HR124_0.out)) hb); have n8_ := Aside0.mk (below_step (by repeat (first | (with_reducible first | exact HB.out | apply below_alloc | apply pw_below_drewN | apply below_drew1) | exact HB.out)) hb); have st_ := Aside0.mk ((hb.block pS (blk_lt HST.out)).trans HST.out); clear HST; have HST := st_; clear st_; clear HO114; clear HO118; clear HL119_0; clear HO122; clear HL124_0; clear HR119_0; clear HR124_0; clear HB; have HO114 := n0_; have HO118 := n1_; have HL119_0 := n2_; have HO122 := n3_; have HL124_0 := n4_; have HO127 := n5_; have HR119_0 := n6_; have HR124_0 := n7_; have HB := n8_; clear n0_ n1_ n2_ n3_ n4_ n5_ n6_ n7_ n8_; clear hb ho21; obtain ⟨Ao22, co22, eo22⟩ := Kd.R_slice HO127.out; subst eo22) | (go_at_call 19; (with_reducible refine (psalteryref04_Same.calls k _ _ (rd_L1 t115 1) _ _ y125 true _ ?side1 ?side2 ?side3 ?side4 A8.out).mono ?_); (case side1 => repeat (first | exact (by repeat (first | (with_reducible exact HR124_0.out) | (with_reducible refine Kd.C_alloc ?_ _) | (with_reducible refine Kd.C_drewN ?_ _) | (with_reducible refine Kd.C_drew ?_) | exact HR124_0.out)) | (with_reducible refine Kd.C_alloc ?_ _) | (with_reducible refine Kd.C_drewN ?_ _) | (with_reducible refine Kd.C_drew ?_))); (case side2 => exact HC124_0.out); (case side3 => repeat (first | exact (Kd.R_reads' HO127.out).2.2 | (with_reducible refine Kd.C_alloc ?_ _) | (with_reducible refine Kd.C_drewN ?_ _) | (with_reducible refine Kd.C_drew ?_))); (case side4 => exact (Kd.R_reads' HO127.out).2.1); rintro e w' ⟨rfl, ⟨nd, rfl⟩⟩) | ((with_reducible refine gate_dst (N := 41) rfl ?_); (try (refine gate_guard (by rfl) ?_; dsimp only)); refine Kd.R_lit (Kd.int .i16) _ 33 ?hg (N := 41) ?hd (xs := ([5] : List Int)) (inner := [.int .i16 5]) (ok := fun _ => True) (okp := fun _ => True) ?hr ?hp (fun _ hk => hk) trivial (Below.refl _ _) (Nat.le_refl _) (by simp) ?_; (case hd => rfl); (case hg => rfl); (case hr => first | (go_simp; done) | (go_simp; rfl)); (case hp => exact (Reps.one (show Kd.M (Kd.int .i16) _ _ _ 5 [.int .i16 5] from rfl) (Reps.none _ _))); intro v130 w23 ho24 hb hg_ hnew_; clear hg_ hnew_; (first | rw [← Ny129.out] at ho24 | (simp only [Int.reduceToNat] at ho24; rw [← Ny129.out] at ho24)); have n0_ := Aside0.mk (Kd.R_elder' (by (with_reducible repeat (first | apply Kd.R_alloc | apply Kd.R_drewN | apply Kd.R_drew)); exact HO114.out) (Kd.R_base ho24) hb); have n1_ := Aside0.mk (Kd.S_elder' (by (with_reducible repeat (first | apply Kd.S_alloc | apply Kd.S_drewN | apply Kd.S_drew)); exact HO118.out) (Kd.R_base ho24) hb); have n2_ := Aside0.mk (Kd.R_elder' (by (with_reducible repeat (first | apply Kd.R_alloc | apply Kd.R_drewN | apply Kd.R_drew)); exact HL119_0.out) (Kd.R_base ho24) hb); have n3_ := Aside0.mk (Kd.R_elder' (by (with_reducible repeat (first | apply Kd.R_alloc | apply Kd.R_drewN | apply Kd.R_drew)); exact HO122.out) (Kd.R_base ho24) hb); have n4_ := Aside0.mk (Kd.R_elder' (by (with_reducible repeat (first | apply Kd.R_alloc | apply Kd.R_drewN | apply Kd.R_drew)); exact HL124_0.out) (Kd.R_base ho24) hb); have n5_ := Aside0.mk (Kd.R_elder' (by (with_reducible repeat (first | apply Kd.R_alloc | apply Kd.R_drewN | apply Kd.R_drew)); exact HO127.out) (Kd.R_base ho24) hb); have n6_ := Aside0.mk (Kd.R_lower (Kd.R_new' (Kd.R_new' (Kd.R_new' (Kd.R_new' (Kd.R_new' ho24 (Kd.R_lt (by (with_reducible repeat (first | apply Kd.R_alloc | apply Kd.R_drewN | apply Kd.R_drew)); exact HO114.out))) (Kd.R_lt (by (with_reducible repeat (first | apply Kd.R_alloc | apply Kd.R_drewN | apply Kd.R_drew)); exact HL119_0.out))) (Kd.R_lt (by (with_reducible repeat (first | apply Kd.R_alloc | apply Kd.R_drewN | apply Kd.R_drew)); exact HO122.out))) (Kd.R_lt (by (with_reducible repeat (first | apply Kd.R_alloc | apply Kd.R_drewN | apply Kd.R_drew)); exact HL124_0.out))) (Kd.R_lt (by (with_reducible repeat (first | apply Kd.R_alloc | apply Kd.R_drewN | apply Kd.R_drew)); exact HO127.out))) (below_size (by repeat (first | (with_reducible first | exact HB.out | apply below_alloc | apply pw_below_drewN | apply below_drew1) | exact HB.out)))); have n7_ := Aside0.mk (Kd.C_below (by repeat (first | (with_reducible exact HR119_0.out) | (with_reducible refine Kd.C_alloc ?_ _) | (with_reducible refine Kd.C_drewN ?_ _) | (with_reducible refine Kd.C_drew ?_) | exact HR119_0.out)) hb); have n8_ := Aside0.mk (Kd.C_below (by repeat (first | (with_reducible exact HR124_0.out) | (with_reducible refine Kd.C_alloc ?_ _) | (with_reducible refine Kd.C_drewN ?_ _) | (with_reducible refine Kd.C_drew ?_) | exact HR124_0.out)) hb); have n9_ := Aside0.mk (below_step (by repeat (first | (with_reducible first | exact HB.out | apply below_alloc | apply pw_below_drewN | apply below_drew1) | exact HB.out)) hb); have st_ := Aside0.mk ((hb.block pS (blk_lt HST.out)).trans HST.out); clear HST; have HST := st_; clear st_; clear HO114; clear HO118; clear HL119_0; clear HO122; clear HL124_0; clear HO127; clear HR119_0; clear HR124_0; clear HB; have HO114 := n0_; have HO118 := n1_; have HL119_0 := n2_; have HO122 := n3_; have HL124_0 := n4_; have HO127 := n5_; have HO131 := n6_; have HR119_0 := n7_; have HR124_0 := n8_; have HB := n9_; clear n0_ n1_ n2_ n3_ n4_ n5_ n6_ n7_ n8_ n9_; clear hb ho24; obtain ⟨AoP, coP, eoP⟩ := Kd.R_slice HO131.out; subst eoP) | (go_at_call 16; refine (pcm_Put.put w.heap.size pS 2 [] y129 (.slice none 0 0) AoP coP _ (below_size HB.out) HST.out (own_nil _ _ _ _) (Kd.R_reads' HO131.out).2.2 (by rw [Ny129.out]; decide) (by decide) (by decide) (by decide)).mono ?_; rintro e wP ⟨rfl, vS, hst, hown, halt, hchg⟩; obtain ⟨gS, capS, hv, hg1, hg2⟩ := hown.form (by rw [Ny129.out]; decide); subst hv; have n0_ := Aside0.mk (hchg.below HB.out (below_size HB.out) HPG.out (fun k e => by cases e)); have n1_ := Aside0.mk hst; have n2_ := Aside0.mk hown; have HGS := Aside0.mk hg1; clear HO114 HO118 HL119_0 HO122 HL124_0 HO127 HO131 HR119_0 HR124_0 HB HST hst hown halt hchg hg1 hg2; have HB := n0_; have HST := n1_; have HOS := n2_; clear n0_ n1_ n2_) | (go_at_call 18; refine (pcm_Take.take w.heap.size pS 2 1 capS gS 2 2 y129 _ HST.out HOS.out (by decide) (by decide) (by decide) rfl (by rw [Ny129.out]; decide) (by decide)).mono ?_; rintro e wT ⟨vo, rfl, hR, v2, hst2, hown2, hgb, hchg⟩; have e132 : y129.take 1 ++ List.replicate (2 - 1) 0 = y132 := (by rw [Ny129.out, Ny132.out]; rfl); rw [e132] at hR; obtain ⟨Ao29, co29, eo29⟩ := Kd.R_slice hR; subst eo29; have n0_ := Aside0.mk (hchg.below HB.out (below_size HB.out) HPG.out (fun k e => by obtain rfl := Option.some.inj e; exact HGS.out)); have n1_ := Aside0.mk (Kd.R_lower hR (below_size HB.out)); clear HB HST HOS hR hst2 hown2 hgb hchg e132; have HB := n0_; have HO134 := n1_; clear n0_ n1_) | ((with_reducible refine gate_dst (N := 48) rfl ?_); (try (refine gate_guard (by rfl) ?_; dsimp only)); refine Kd.R_lit (Kd.int .i16) _ 33 ?hg (N := 48) ?hd (xs := ([5, 0] : List Int)) (inner := [.int .i16 5, .int .i16 0]) (ok := fun _ => True) (okp := fun _ => True) ?hr ?hp (fun _ hk => hk) trivial (Below.refl _ _) (Nat.le_refl _) (by simp) ?_; (case hd => rfl); (case hg => rfl); (case hr => first | (go_simp; done) | (go_simp; rfl)); (case hp => exact (Reps.one (show Kd.M (Kd.int .i16) _ _ _ 5 [.int .i16 5] from rfl) (Reps.one (show Kd.M (Kd.int .i16) _ _ _ 0 [.int .i16 0] from rfl) (Reps.none _ _)))); intro v136 w27 ho28 hb hg_ hnew_; clear hg_ hnew_; (first | rw [← Ny135.out] at ho28 | (simp only [Int.reduceToNat] at ho28; rw [← Ny135.out] at ho28)); have n0_ := Aside0.mk (Kd.R_below HO134.out hb); have n1_ := Aside0.mk (Kd.R_lower ho28 (below_size HB.out)); have n2_ := Aside0.mk (below_step HB.out hb); clear HO134 HB hb ho28; have HO134 := n0_; have HO137 := n1_; have HB := n2_; clear n0_ n1_ n2_; obtain ⟨Ao30, co30, eo30⟩ := Kd.R_slice HO137.out; subst eo30) | (go_at_call 19; (with_reducible refine (psalteryref04_Same.calls k _ _ y132 _ _ y135 t138 _ ?side1 ?side2 ?side3 ?side4 A11.out).mono ?_); (case side1 => repeat (first | exact (Kd.R_reads' HO134.out).2.2 | (with_reducible refine Kd.C_alloc ?_ _) | (with_reducible refine Kd.C_drewN ?_ _) | (with_reducible refine Kd.C_drew ?_))); (case side2 => exact (Kd.R_reads' HO134.out).2.1); (case side3 => repeat (first | exact (Kd.R_reads' HO137.out).2.2 | (with_reducible refine Kd.C_alloc ?_ _) | (with_reducible refine Kd.C_drewN ?_ _) | (with_reducible refine Kd.C_drew ?_))); (case side4 => exact (Kd.R_reads' HO137.out).2.1); rintro e w' ⟨rfl, ⟨nd, rfl⟩⟩))
                go_ret
                exact ⟨by first | rfl | (simp [errW_none, errW_some] <;> rfl) | (simp [*, errW_none, errW_some] <;> rfl), by repeat (first | (with_reducible first | exact HB.out | apply below_alloc | apply pw_below_drewN | apply below_drew1) | exact HB.out)⟩
              · rw [if_neg c10] at H
                exact absurd H (by simp)
            · rw [if_neg c9] at H
              exact absurd H (by simp)
          · rw [if_neg c7] at H
            exact absurd H (by simp)
        · rw [if_neg c6] at H
          exact absurd H (by simp)
      · rw [if_neg c4] at H
        exact absurd H (by simp)
    · rw [if_neg c3] at H
      exact absurd H (by simp)
  · rw [if_neg c2] at H
    exact absurd H (by simp)

end Go.Proofs.Ytgmgdbcfgbgnlaa.PPcm
