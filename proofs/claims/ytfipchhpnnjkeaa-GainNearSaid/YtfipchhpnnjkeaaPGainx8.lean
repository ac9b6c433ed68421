/- Contracts of the functions that the law Gain reaches: each Go function as a Lean function, and that the Go text comes to it. Written by programs (wip/tools), out of the program's own loaded form. -/
import Derived.Test.YtfipchhpnnjkeaaPGainx0
import Derived.Test.YtfipchhpnnjkeaaPGainx2
import Derived.Test.YtfipchhpnnjkeaaPGainx7
namespace Go.Proofs.Ytfipchhpnnjkeaa.PGain
open Go.RowKit Go.Proofs.YtfipchhpnnjkeaaW.PrintWords Go.Proofs.YtfipchhpnnjkeaaW.PrintLast Go.Proofs.YtfipchhpnnjkeaaW.PrintMore
attribute [local go_sem] max2_int min2_int max_two min_two max_three min_three max_four min_four   -- for this text's walks alone
set_option linter.unusedVariables false
set_option linter.unusedSimpArgs false

/-! ### psalteryref19_Restore: function 44 -/
mutual
def psalteryref19_Restore.j0 : Nat → List Int → Int → List Int → Int → Int → Bool → Option (List Int × Int)
  | 0, _, _, _, _, _, _ => none
  | k + 1, x0, x1, x2, x3, x4, x52 => if x52 = true then (some (([] : List Int), 1)) else (psalteryref19_Restore.l0 k x0 x1 x2 x3 x4 0 0)
def psalteryref19_Restore.l0 : Nat → List Int → Int → List Int → Int → Int → Int → Int → Option (List Int × Int)
  | 0, _, _, _, _, _, _, _ => none
  | k + 1, x0, x1, x2, x3, x4, x13, x14 => if x14 < (x2.length : Int) then (if 0 ≤ x14 then (if (rd x2 x14) = 0 then (psalteryref19_Restore.l0 k x0 x1 x2 x3 x4 x13 (wrap64 (x14 + 1))) else (if (rd x2 x14) = 1 then (psalteryref19_Restore.l0 k x0 x1 x2 x3 x4 x13 (wrap64 (x14 + 1))) else (some (([] : List Int), 1)))) else (none)) else (psalteryref19_Restore.l1 k x0 x1 x2 x3 x4 x13 0)
def psalteryref19_Restore.l1 : Nat → List Int → Int → List Int → Int → Int → Int → Int → Option (List Int × Int)
  | 0, _, _, _, _, _, _, _ => none
  | k + 1, x0, x1, x2, x3, x4, x13, x15 => if x15 < (x0.length : Int) then (if 0 ≤ x15 then ((psalteryref19_abs.f (rd x0 x15)).bind fun t246 => (psalteryref19_Restore.l1 k x0 x1 x2 x3 x4 (wrap64 (x13 + t246)) (wrap64 (x15 + 1)))) else (none)) else ((psalteryref19_Step.f k x1).bind fun t247 => (psalteryref19_Restore.l2 k x0 x2 x3 x4 (Int.tmod x13 65536) t247 ([] : List Int) 0 0))
def psalteryref19_Restore.l2 : Nat → List Int → List Int → Int → Int → Int → Int → List Int → Int → Int → Option (List Int × Int)
  | 0, _, _, _, _, _, _, _, _, _ => none
  | k + 1, x0, x2, x3, x4, x13, x16, x17, x18, x19 => if x19 < (x0.length : Int) then (if 0 ≤ x19 then (if (rd x0 x19) = 0 then (if x3 > 0 then (psalteryref19_Restore.j4 k x0 x2 x3 x4 x13 x16 x17 x18 x19 0 (decide (x19 < x4))) else (psalteryref19_Restore.j4 k x0 x2 x3 x4 x13 x16 x17 x18 x19 0 false)) else ((psalteryref19_abs.f (rd x0 x19)).bind fun t263 => (if x18 < (x2.length : Int) then (if 0 ≤ x18 then (if (rd x2 x18) = 1 then (psalteryref19_Restore.j5 k x0 x2 x3 x4 x13 x16 x17 (wrap64 (x18 + 1)) x19 (wrap64 ((wrap64 (t263 * x16)) + (wrap64 (Int.tdiv x16 4))))) else (psalteryref19_Restore.j5 k x0 x2 x3 x4 x13 x16 x17 (wrap64 (x18 + 1)) x19 (wrap64 ((wrap64 (t263 * x16)) - (wrap64 (Int.tdiv x16 4)))))) else (none)) else (psalteryref19_Restore.j5 k x0 x2 x3 x4 x13 x16 x17 x18 x19 (wrap64 (t263 * x16)))))) else (none)) else (some (x17, 0))
def psalteryref19_Restore.j4 : Nat → List Int → List Int → Int → Int → Int → Int → List Int → Int → Int → Int → Bool → Option (List Int × Int)
  | 0, _, _, _, _, _, _, _, _, _, _, _ => none
  | k + 1, x0, x2, x3, x4, x13, x16, x17, x18, x19, x20, x140 => if x140 = true then ((psalteryref01_Round.f (wrap64 (Int.tdiv (wrap64 (x3 * x16)) 16)) 16).bind fun t249 => (if (Int.tmod (wrap64 ((wrap64 (x13 * 13849)) + 16831)) 65536) ≥ 32768 then ((psalteryref01_Sat.f (wrap64 (-t249)) 32).bind fun t250 => (if x17.length < 35184372088832 then (psalteryref19_Restore.l2 k x0 x2 x3 x4 (Int.tmod (wrap64 ((wrap64 (x13 * 13849)) + 16831)) 65536) x16 (x17 ++ [wrap32 (t250)]) x18 (wrap64 (x19 + 1))) else (none))) else ((psalteryref01_Sat.f t249 32).bind fun t254 => (if x17.length < 35184372088832 then (psalteryref19_Restore.l2 k x0 x2 x3 x4 (Int.tmod (wrap64 ((wrap64 (x13 * 13849)) + 16831)) 65536) x16 (x17 ++ [wrap32 (t254)]) x18 (wrap64 (x19 + 1))) else (none))))) else ((psalteryref01_Sat.f x20 32).bind fun t258 => (if x17.length < 35184372088832 then (psalteryref19_Restore.l2 k x0 x2 x3 x4 x13 x16 (x17 ++ [wrap32 (t258)]) x18 (wrap64 (x19 + 1))) else (none)))
def psalteryref19_Restore.j5 : Nat → List Int → List Int → Int → Int → Int → Int → List Int → Int → Int → Int → Option (List Int × Int)
  | 0, _, _, _, _, _, _, _, _, _, _ => none
  | k + 1, x0, x2, x3, x4, x13, x16, x17, x18, x19, x21 => (psalteryref01_Round.f x21 16).bind fun t265 => (if 0 ≤ x19 then (if x19 < (x0.length : Int) then (if (rd x0 x19) < 0 then ((psalteryref01_Sat.f (wrap64 (-t265)) 32).bind fun t267 => (if x17.length < 35184372088832 then (psalteryref19_Restore.l2 k x0 x2 x3 x4 x13 x16 (x17 ++ [wrap32 (t267)]) x18 (wrap64 (x19 + 1))) else (none))) else ((psalteryref01_Sat.f t265 32).bind fun t271 => (if x17.length < 35184372088832 then (psalteryref19_Restore.l2 k x0 x2 x3 x4 x13 x16 (x17 ++ [wrap32 (t271)]) x18 (wrap64 (x19 + 1))) else (none)))) else (none)) else (none))
end
def psalteryref19_Restore.f (k : Nat) (l0 : List Int) (a1 : Int) (l2 : List Int) (a3 : Int) (a4 : Int) : Option (List Int × Int) := (psalteryref19_May.f k (l0.length : Int) l0 a1).bind fun t241 => (if t241 = 0 then ((psalteryref19_Nonzero.f k l0).bind fun t242 => (if (l2.length : Int) > t242 then (psalteryref19_Restore.j0 k l0 a1 l2 a3 a4 true) else (if a3 < 0 then (psalteryref19_Restore.j0 k l0 a1 l2 a3 a4 true) else (if a3 > 7 then (psalteryref19_Restore.j0 k l0 a1 l2 a3 a4 true) else (if a4 < 0 then (psalteryref19_Restore.j0 k l0 a1 l2 a3 a4 true) else (psalteryref19_Restore.j0 k l0 a1 l2 a3 a4 (decide (a4 > (l0.length : Int))))))))) else (some (([] : List Int), t241)))
theorem psalteryref19_Restore.mono_l : ∀ k, (∀ y0 y1 y2 y3 y4 y5, LeO (psalteryref19_Restore.j0 k y0 y1 y2 y3 y4 y5) (psalteryref19_Restore.j0 (k + 1) y0 y1 y2 y3 y4 y5)) ∧ (∀ y0 y1 y2 y3 y4 y5 y6, LeO (psalteryref19_Restore.l0 k y0 y1 y2 y3 y4 y5 y6) (psalteryref19_Restore.l0 (k + 1) y0 y1 y2 y3 y4 y5 y6)) ∧ (∀ y0 y1 y2 y3 y4 y5 y6, LeO (psalteryref19_Restore.l1 k y0 y1 y2 y3 y4 y5 y6) (psalteryref19_Restore.l1 (k + 1) y0 y1 y2 y3 y4 y5 y6)) ∧ (∀ y0 y1 y2 y3 y4 y5 y6 y7 y8, LeO (psalteryref19_Restore.l2 k y0 y1 y2 y3 y4 y5 y6 y7 y8) (psalteryref19_Restore.l2 (k + 1) y0 y1 y2 y3 y4 y5 y6 y7 y8)) ∧ (∀ y0 y1 y2 y3 y4 y5 y6 y7 y8 y9 y10, LeO (psalteryref19_Restore.j4 k y0 y1 y2 y3 y4 y5 y6 y7 y8 y9 y10) (psalteryref19_Restore.j4 (k + 1) y0 y1 y2 y3 y4 y5 y6 y7 y8 y9 y10)) ∧ (∀ y0 y1 y2 y3 y4 y5 y6 y7 y8 y9, LeO (psalteryref19_Restore.j5 k y0 y1 y2 y3 y4 y5 y6 y7 y8 y9) (psalteryref19_Restore.j5 (k + 1) y0 y1 y2 y3 y4 y5 y6 y7 y8 y9))
  | 0 => ⟨fun _ _ _ _ _ _ r h => by simp [psalteryref19_Restore.j0] at h, fun _ _ _ _ _ _ _ r h => by simp [psalteryref19_Restore.l0] at h, fun _ _ _ _ _ _ _ r h => by simp [psalteryref19_Restore.l1] at h, fun _ _ _ _ _ _ _ _ _ r h => by simp [psalteryref19_Restore.l2] at h, fun _ _ _ _ _ _ _ _ _ _ _ r h => by simp [psalteryref19_Restore.j4] at h, fun _ _ _ _ _ _ _ _ _ _ r h => by simp [psalteryref19_Restore.j5] at h⟩
  | k + 1 => by
    obtain ⟨ih0, ih1, ih2, ih3, ih4, ih5⟩ := psalteryref19_Restore.mono_l k
    refine ⟨?_, ?_, ?_, ?_, ?_, ?_⟩
    · intro y0 y1 y2 y3 y4 y5
      unfold psalteryref19_Restore.j0
      repeat' first
      | (with_reducible exact ih0 _ _ _ _ _ _)
      | (with_reducible exact ih1 _ _ _ _ _ _ _)
      | (with_reducible exact ih2 _ _ _ _ _ _ _)
      | (with_reducible exact ih3 _ _ _ _ _ _ _ _ _)
      | (with_reducible exact ih4 _ _ _ _ _ _ _ _ _ _ _)
      | (with_reducible exact ih5 _ _ _ _ _ _ _ _ _ _)
      | (with_reducible exact psalteryref19_May.mono _ _ _ _)
      | (with_reducible exact psalteryref19_Nonzero.mono _ _)
      | (with_reducible exact psalteryref19_Step.mono _ _)
      | (with_reducible exact LeO.refl _)
      | (with_reducible exact LeO.none _)
      | (with_reducible refine LeO.ite ?_ ?_)
      | (with_reducible refine LeO.bind ?_ (fun _ => ?_))
      | exact ih0 _ _ _ _ _ _
      | exact ih1 _ _ _ _ _ _ _
      | exact ih2 _ _ _ _ _ _ _
      | exact ih3 _ _ _ _ _ _ _ _ _
      | exact ih4 _ _ _ _ _ _ _ _ _ _ _
      | exact ih5 _ _ _ _ _ _ _ _ _ _
      | exact psalteryref19_May.mono _ _ _ _
      | exact psalteryref19_Nonzero.mono _ _
      | exact psalteryref19_Step.mono _ _
      | exact LeO.none _
      | refine LeO.ite ?_ ?_
      | refine LeO.bind ?_ (fun _ => ?_)
    · intro y0 y1 y2 y3 y4 y5 y6
      unfold psalteryref19_Restore.l0
      repeat' first
      | (with_reducible exact ih0 _ _ _ _ _ _)
      | (with_reducible exact ih1 _ _ _ _ _ _ _)
      | (with_reducible exact ih2 _ _ _ _ _ _ _)
      | (with_reducible exact ih3 _ _ _ _ _ _ _ _ _)
      | (with_reducible exact ih4 _ _ _ _ _ _ _ _ _ _ _)
      | (with_reducible exact ih5 _ _ _ _ _ _ _ _ _ _)
      | (with_reducible exact psalteryref19_May.mono _ _ _ _)
      | (with_reducible exact psalteryref19_Nonzero.mono _ _)
      | (with_reducible exact psalteryref19_Step.mono _ _)
      | (with_reducible exact LeO.refl _)
      | (with_reducible exact LeO.none _)
      | (with_reducible refine LeO.ite ?_ ?_)
      | (with_reducible refine LeO.bind ?_ (fun _ => ?_))
      | exact ih0 _ _ _ _ _ _
      | exact ih1 _ _ _ _ _ _ _
      | exact ih2 _ _ _ _ _ _ _
      | exact ih3 _ _ _ _ _ _ _ _ _
      | exact ih4 _ _ _ _ _ _ _ _ _ _ _
      | exact ih5 _ _ _ _ _ _ _ _ _ _
      | exact psalteryref19_May.mono _ _ _ _
      | exact psalteryref19_Nonzero.mono _ _
      | exact psalteryref19_Step.mono _ _
      | exact LeO.none _
      | refine LeO.ite ?_ ?_
      | refine LeO.bind ?_ (fun _ => ?_)
    · intro y0 y1 y2 y3 y4 y5 y6
      unfold psalteryref19_Restore.l1
      repeat' first
      | (with_reducible exact ih0 _ _ _ _ _ _)
      | (with_reducible exact ih1 _ _ _ _ _ _ _)
      | (with_reducible exact ih2 _ _ _ _ _ _ _)
      | (with_reducible exact ih3 _ _ _ _ _ _ _ _ _)
      | (with_reducible exact ih4 _ _ _ _ _ _ _ _ _ _ _)
      | (with_reducible exact ih5 _ _ _ _ _ _ _ _ _ _)
      | (with_reducible exact psalteryref19_May.mono _ _ _ _)
      | (with_reducible exact psalteryref19_Nonzero.mono _ _)
      | (with_reducible exact psalteryref19_Step.mono _ _)
      | (with_reducible exact LeO.refl _)
      | (with_reducible exact LeO.none _)
      | (with_reducible refine LeO.ite ?_ ?_)
      | (with_reducible refine LeO.bind ?_ (fun _ => ?_))
      | exact ih0 _ _ _ _ _ _
      | exact ih1 _ _ _ _ _ _ _
      | exact ih2 _ _ _ _ _ _ _
      | exact ih3 _ _ _ _ _ _ _ _ _
      | exact ih4 _ _ _ _ _ _ _ _ _ _ _
      | exact ih5 _ _ _ _ _ _ _ _ _ _
      | exact psalteryref19_May.mono _ _ _ _
      | exact psalteryref19_Nonzero.mono _ _
      | exact psalteryref19_Step.mono _ _
      | exact LeO.none _
      | refine LeO.ite ?_ ?_
      | refine LeO.bind ?_ (fun _ => ?_)
    · intro y0 y1 y2 y3 y4 y5 y6 y7 y8
      unfold psalteryref19_Restore.l2
      repeat' first
      | (with_reducible exact ih0 _ _ _ _ _ _)
      | (with_reducible exact ih1 _ _ _ _ _ _ _)
      | (with_reducible exact ih2 _ _ _ _ _ _ _)
      | (with_reducible exact ih3 _ _ _ _ _ _ _ _ _)
      | (with_reducible exact ih4 _ _ _ _ _ _ _ _ _ _ _)
      | (with_reducible exact ih5 _ _ _ _ _ _ _ _ _ _)
      | (with_reducible exact psalteryref19_May.mono _ _ _ _)
      | (with_reducible exact psalteryref19_Nonzero.mono _ _)
      | (with_reducible exact psalteryref19_Step.mono _ _)
      | (with_reducible exact LeO.refl _)
      | (with_reducible exact LeO.none _)
      | (with_reducible refine LeO.ite ?_ ?_)
      | (with_reducible refine LeO.bind ?_ (fun _ => ?_))
      | exact ih0 _ _ _ _ _ _
      | exact ih1 _ _ _ _ _ _ _
      | exact ih2 _ _ _ _ _ _ _
      | exact ih3 _ _ _ _ _ _ _ _ _
      | exact ih4 _ _ _ _ _ _ _ _ _ _ _
      | exact ih5 _ _ _ _ _ _ _ _ _ _
      | exact psalteryref19_May.mono _ _ _ _
      | exact psalteryref19_Nonzero.mono _ _
      | exact psalteryref19_Step.mono _ _
      | exact LeO.none _
      | refine LeO.ite ?_ ?_
      | refine LeO.bind ?_ (fun _ => ?_)
    · intro y0 y1 y2 y3 y4 y5 y6 y7 y8 y9 y10
      unfold psalteryref19_Restore.j4
      repeat' first
      | (with_reducible exact ih0 _ _ _ _ _ _)
      | (with_reducible exact ih1 _ _ _ _ _ _ _)
      | (with_reducible exact ih2 _ _ _ _ _ _ _)
      | (with_reducible exact ih3 _ _ _ _ _ _ _ _ _)
      | (with_reducible exact ih4 _ _ _ _ _ _ _ _ _ _ _)
      | (with_reducible exact ih5 _ _ _ _ _ _ _ _ _ _)
      | (with_reducible exact psalteryref19_May.mono _ _ _ _)
      | (with_reducible exact psalteryref19_Nonzero.mono _ _)
      | (with_reducible exact psalteryref19_Step.mono _ _)
      | (with_reducible exact LeO.refl _)
      | (with_reducible exact LeO.none _)
      | (with_reducible refine LeO.ite ?_ ?_)
      | (with_reducible refine LeO.bind ?_ (fun _ => ?_))
      | exact ih0 _ _ _ _ _ _
      | exact ih1 _ _ _ _ _ _ _
      | exact ih2 _ _ _ _ _ _ _
      | exact ih3 _ _ _ _ _ _ _ _ _
      | exact ih4 _ _ _ _ _ _ _ _ _ _ _
      | exact ih5 _ _ _ _ _ _ _ _ _ _
      | exact psalteryref19_May.mono _ _ _ _
      | exact psalteryref19_Nonzero.mono _ _
      | exact psalteryref19_Step.mono _ _
      | exact LeO.none _
      | refine LeO.ite ?_ ?_
      | refine LeO.bind ?_ (fun _ => ?_)
    · intro y0 y1 y2 y3 y4 y5 y6 y7 y8 y9
      unfold psalteryref19_Restore.j5
      repeat' first
      | (with_reducible exact ih0 _ _ _ _ _ _)
      | (with_reducible exact ih1 _ _ _ _ _ _ _)
      | (with_reducible exact ih2 _ _ _ _ _ _ _)
      | (with_reducible exact ih3 _ _ _ _ _ _ _ _ _)
      | (with_reducible exact ih4 _ _ _ _ _ _ _ _ _ _ _)
      | (with_reducible exact ih5 _ _ _ _ _ _ _ _ _ _)
      | (with_reducible exact psalteryref19_May.mono _ _ _ _)
      | (with_reducible exact psalteryref19_Nonzero.mono _ _)
      | (with_reducible exact psalteryref19_Step.mono _ _)
      | (with_reducible exact LeO.refl _)
      | (with_reducible exact LeO.none _)
      | (with_reducible refine LeO.ite ?_ ?_)
      | (with_reducible refine LeO.bind ?_ (fun _ => ?_))
      | exact ih0 _ _ _ _ _ _
      | exact ih1 _ _ _ _ _ _ _
      | exact ih2 _ _ _ _ _ _ _
      | exact ih3 _ _ _ _ _ _ _ _ _
      | exact ih4 _ _ _ _ _ _ _ _ _ _ _
      | exact ih5 _ _ _ _ _ _ _ _ _ _
      | exact psalteryref19_May.mono _ _ _ _
      | exact psalteryref19_Nonzero.mono _ _
      | exact psalteryref19_Step.mono _ _
      | exact LeO.none _
      | refine LeO.ite ?_ ?_
      | refine LeO.bind ?_ (fun _ => ?_)
theorem psalteryref19_Restore.mono : ∀ a0 a1 a2 a3 a4 k, LeO (psalteryref19_Restore.f k a0 a1 a2 a3 a4) (psalteryref19_Restore.f (k + 1) a0 a1 a2 a3 a4) := by
  intro a0 a1 a2 a3 a4 k
  obtain ⟨ih0, ih1, ih2, ih3, ih4, ih5⟩ := psalteryref19_Restore.mono_l k
  unfold psalteryref19_Restore.f
  repeat' first
      | (with_reducible exact ih0 _ _ _ _ _ _)
      | (with_reducible exact ih1 _ _ _ _ _ _ _)
      | (with_reducible exact ih2 _ _ _ _ _ _ _)
      | (with_reducible exact ih3 _ _ _ _ _ _ _ _ _)
      | (with_reducible exact ih4 _ _ _ _ _ _ _ _ _ _ _)
      | (with_reducible exact ih5 _ _ _ _ _ _ _ _ _ _)
      | (with_reducible exact psalteryref19_May.mono _ _ _ _)
      | (with_reducible exact psalteryref19_Nonzero.mono _ _)
      | (with_reducible exact psalteryref19_Step.mono _ _)
      | (with_reducible exact LeO.refl _)
      | (with_reducible exact LeO.none _)
      | (with_reducible refine LeO.ite ?_ ?_)
      | (with_reducible refine LeO.bind ?_ (fun _ => ?_))
      | exact ih0 _ _ _ _ _ _
      | exact ih1 _ _ _ _ _ _ _
      | exact ih2 _ _ _ _ _ _ _
      | exact ih3 _ _ _ _ _ _ _ _ _
      | exact ih4 _ _ _ _ _ _ _ _ _ _ _
      | exact ih5 _ _ _ _ _ _ _ _ _ _
      | exact psalteryref19_May.mono _ _ _ _
      | exact psalteryref19_Nonzero.mono _ _
      | exact psalteryref19_Step.mono _ _
      | exact LeO.none _
      | refine LeO.ite ?_ ?_
      | refine LeO.bind ?_ (fun _ => ?_)
set_option maxHeartbeats 8000000 in
set_option maxRecDepth 100000 in
theorem psalteryref19_Restore.calls (k : Nat) (A0 : Option Addr) (c0 : Nat) (l0 : List Int) (a1 : Int) (A2 : Option Addr) (c2 : Nat) (l2 : List Int) (a3 : Int) (a4 : Int) (r1 : List Int) (r2 : Int) (w : World) (hr0 : Kd.C (Kd.int .i64) w A0 l0.length l0) (hc0 : l0.length ≤ c0) (hr2 : Kd.C (Kd.int .i64) w A2 l2.length l2) (hc2 : l2.length ≤ c2) (h : psalteryref19_Restore.f k l0 a1 l2 a3 a4 = some (r1, r2)) :
    Calls Try.prog 44 #[.slice A0 l0.length c0, .int .i64 a1, .slice A2 l2.length c2, .int .i64 a3, .int .i64 a4] w fun e w' => ∃ v0_ : Value, e = .returned (.tuple #[v0_, .int .i64 r2]) ∧ Kd.R (Kd.int .i32) 21 w' w.heap.size (fun _ => True) v0_ r1 ∧ Below w.heap.size w w' := by
  have HR0 := Aside0.mk hr0
  have HC0 := Aside0.mk hc0
  clear hr0 hc0
  have HR2 := Aside0.mk hr2
  have HC2 := Aside0.mk hc2
  clear hr2 hc2
  have HB := Aside0.mk (Below.refl w.heap.size w)
  have H : ((psalteryref19_May.f k (l0.length : Int) l0 a1).bind fun t241 => (if t241 = 0 then ((psalteryref19_Nonzero.f k l0).bind fun t242 => (if (l2.length : Int) > t242 then (psalteryref19_Restore.j0 k l0 a1 l2 a3 a4 true) else (if a3 < 0 then (psalteryref19_Restore.j0 k l0 a1 l2 a3 a4 true) else (if a3 > 7 then (psalteryref19_Restore.j0 k l0 a1 l2 a3 a4 true) else (if a4 < 0 then (psalteryref19_Restore.j0 k l0 a1 l2 a3 a4 true) else (psalteryref19_Restore.j0 k l0 a1 l2 a3 a4 (decide (a4 > (l0.length : Int))))))))) else (some (([] : List Int), t241)))) = some (r1, r2) := h
  clear h
  replace H := Option.bind_eq_some_iff.mp H
  obtain ⟨t241, A60, H⟩ := H
  replace H : (if t241 = 0 then ((psalteryref19_Nonzero.f k l0).bind fun t242 => (if (l2.length : Int) > t242 then (psalteryref19_Restore.j0 k l0 a1 l2 a3 a4 true) else (if a3 < 0 then (psalteryref19_Restore.j0 k l0 a1 l2 a3 a4 true) else (if a3 > 7 then (psalteryref19_Restore.j0 k l0 a1 l2 a3 a4 true) else (if a4 < 0 then (psalteryref19_Restore.j0 k l0 a1 l2 a3 a4 true) else (psalteryref19_Restore.j0 k l0 a1 l2 a3 a4 (decide (a4 > (l0.length : Int))))))))) else (some (([] : List Int), t241))) = some (r1, r2) := H
  have A6 := Aside0.mk A60
  clear A60
  by_cases c7 : t241 = 0
  · rw [if_pos c7] at H
    have c7b0 : (t241 == 0) = true := beq_iff_eq.mpr c7
    have c7b1 : (t241 != 0) = false := bne_eq_false_iff_eq.mpr c7
    clear c7
    have HC8 := Aside0.mk H
    clear H
    go_enter Try.func44, Try.ntmps44
    go_upto_region 4 with (first | ((with_reducible refine gate_callee (f := 68) rfl ?_); refine goesL_ (some 26) rfl rfl Try.func68 (by kernel_rfl) rfl #[.int .i64 (l0.length : Int), .slice A0 l0.length c0, .int .i64 a1] rfl (by (try simp only [List.map_toArray, List.map_cons, List.map_nil]); first | done | rfl | (simp only [List.length_drop, List.length_take]; rfl)) ?_; (with_reducible refine (psalteryref19_May.calls k (l0.length : Int) _ _ l0 a1 t241 _ ?side1 ?side2 A6.out).mono ?_); (case side1 => repeat (first | exact HR0.out | (with_reducible refine Kd.C_alloc ?_ _) | (with_reducible refine Kd.C_drewN ?_ _) | (with_reducible refine Kd.C_drew ?_))); (case side2 => exact HC0.out); rintro e w9 ⟨rfl, hb⟩; refine ⟨_, rfl, ?_⟩; have n0_ := Aside0.mk (below_step (by repeat (first | (with_reducible first | exact HB.out | apply below_alloc | apply pw_below_drewN | apply below_drew1) | exact HB.out)) hb); clear HB; have HB := n0_; clear n0_; (try clear hb); (try clear hb2); (try clear hk); (try clear hi)))
    (try simp only [Act.put, List.setIfInBounds_toArray, List.set_cons_zero, List.set_cons_succ])
    go_cut [52] (fun v52 wc => ∃ (kq : Nat) (x52_7 : Bool), v52 = .bool x52_7 ∧ Aside0 (psalteryref19_Restore.j0 kq l0 a1 l2 a3 a4 x52_7 = some (r1, r2)) ∧ Aside0 (kq ≤ k) ∧ Aside0 (Below w.heap.size w wc))
    case first =>
      have H := HC8.out
      clear HC8
      replace H := Option.bind_eq_some_iff.mp H
      obtain ⟨t242, A100, H⟩ := H
      replace H : (if (l2.length : Int) > t242 then (psalteryref19_Restore.j0 k l0 a1 l2 a3 a4 true) else (if a3 < 0 then (psalteryref19_Restore.j0 k l0 a1 l2 a3 a4 true) else (if a3 > 7 then (psalteryref19_Restore.j0 k l0 a1 l2 a3 a4 true) else (if a4 < 0 then (psalteryref19_Restore.j0 k l0 a1 l2 a3 a4 true) else (psalteryref19_Restore.j0 k l0 a1 l2 a3 a4 (decide (a4 > (l0.length : Int)))))))) = some (r1, r2) := H
      have A10 := Aside0.mk A100
      clear A100
      by_cases c11 : (l2.length : Int) > t242
      · rw [if_pos c11] at H
        have c11b0 : decide (t242 < (l2.length : Int)) = true := decide_eq_true c11
        clear c11
        (first | rw [c11b0] | (simp only [i64_w, i32_w]; rw [c11b0]) | skip)
        have H' := Aside0.mk H
        clear H
        go_wp2_with (first | ((with_reducible refine gate_callee (f := 69) rfl ?_); refine goesL_ (some 33) rfl rfl Try.func69 (by kernel_rfl) rfl #[.slice A0 l0.length c0] rfl (by (try simp only [List.map_toArray, List.map_cons, List.map_nil]); first | done | rfl | (simp only [List.length_drop, List.length_take]; rfl)) ?_; (with_reducible refine (psalteryref19_Nonzero.calls k _ _ l0 t242 _ ?side1 ?side2 A10.out).mono ?_); (case side1 => repeat (first | exact (Kd.C_below HR0.out HB.out) | (with_reducible refine Kd.C_alloc ?_ _) | (with_reducible refine Kd.C_drewN ?_ _) | (with_reducible refine Kd.C_drew ?_))); (case side2 => exact HC0.out); rintro e w' ⟨rfl, ⟨nd, rfl⟩⟩; refine ⟨_, rfl, ?_⟩))
        go_meet
        case rel => exact ⟨_, (true), (by first | rfl | (simp; done) | (simp [*]; done)), H', ⟨by first | omega | exact Nat.le_refl _⟩, ⟨by repeat (first | (with_reducible first | exact HB.out | apply below_alloc | apply pw_below_drewN | apply below_drew1) | exact HB.out)⟩⟩
      · rw [if_neg c11] at H
        have c11b0 : decide (t242 < (l2.length : Int)) = false := decide_eq_false c11
        clear c11
        (first | rw [c11b0] | (simp only [i64_w, i32_w]; rw [c11b0]) | skip)
        by_cases c12 : a3 < 0
        · rw [if_pos c12] at H
          have c12b0 : decide (a3 < 0) = true := decide_eq_true c12
          clear c12
          have H' := Aside0.mk H
          clear H
          go_wp2_with (first | ((with_reducible refine gate_callee (f := 69) rfl ?_); refine goesL_ (some 33) rfl rfl Try.func69 (by kernel_rfl) rfl #[.slice A0 l0.length c0] rfl (by (try simp only [List.map_toArray, List.map_cons, List.map_nil]); first | done | rfl | (simp only [List.length_drop, List.length_take]; rfl)) ?_; (with_reducible refine (psalteryref19_Nonzero.calls k _ _ l0 t242 _ ?side1 ?side2 A10.out).mono ?_); (case side1 => repeat (first | exact (Kd.C_below HR0.out HB.out) | (with_reducible refine Kd.C_alloc ?_ _) | (with_reducible refine Kd.C_drewN ?_ _) | (with_reducible refine Kd.C_drew ?_))); (case side2 => exact HC0.out); rintro e w' ⟨rfl, ⟨nd, rfl⟩⟩; refine ⟨_, rfl, ?_⟩))
          go_meet
          case rel => exact ⟨_, (true), (by first | rfl | (simp; done) | (simp [*]; done)), H', ⟨by first | omega | exact Nat.le_refl _⟩, ⟨by repeat (first | (with_reducible first | exact HB.out | apply below_alloc | apply pw_below_drewN | apply below_drew1) | exact HB.out)⟩⟩
        · rw [if_neg c12] at H
          have c12b0 : decide (a3 < 0) = false := decide_eq_false c12
          clear c12
          by_cases c13 : a3 > 7
          · rw [if_pos c13] at H
            have c13b0 : decide (7 < a3) = true := decide_eq_true c13
            clear c13
            have H' := Aside0.mk H
            clear H
            go_wp2_with (first | ((with_reducible refine gate_callee (f := 69) rfl ?_); refine goesL_ (some 33) rfl rfl Try.func69 (by kernel_rfl) rfl #[.slice A0 l0.length c0] rfl (by (try simp only [List.map_toArray, List.map_cons, List.map_nil]); first | done | rfl | (simp only [List.length_drop, List.length_take]; rfl)) ?_; (with_reducible refine (psalteryref19_Nonzero.calls k _ _ l0 t242 _ ?side1 ?side2 A10.out).mono ?_); (case side1 => repeat (first | exact (Kd.C_below HR0.out HB.out) | (with_reducible refine Kd.C_alloc ?_ _) | (with_reducible refine Kd.C_drewN ?_ _) | (with_reducible refine Kd.C_drew ?_))); (case side2 => exact HC0.out); rintro e w' ⟨rfl, ⟨nd, rfl⟩⟩; refine ⟨_, rfl, ?_⟩))
            go_meet
            case rel => exact ⟨_, (true), (by first | rfl | (simp; done) | (simp [*]; done)), H', ⟨by first | omega | exact Nat.le_refl _⟩, ⟨by repeat (first | (with_reducible first | exact HB.out | apply below_alloc | apply pw_below_drewN | apply below_drew1) | exact HB.out)⟩⟩
          · rw [if_neg c13] at H
            have c13b0 : decide (7 < a3) = false := decide_eq_false c13
            clear c13
            by_cases c14 : a4 < 0
            · rw [if_pos c14] at H
              have c14b0 : decide (a4 < 0) = true := decide_eq_true c14
              clear c14
              have H' := Aside0.mk H
              clear H
              go_wp2_with (first | ((with_reducible refine gate_callee (f := 69) rfl ?_); refine goesL_ (some 33) rfl rfl Try.func69 (by kernel_rfl) rfl #[.slice A0 l0.length c0] rfl (by (try simp only [List.map_toArray, List.map_cons, List.map_nil]); first | done | rfl | (simp only [List.length_drop, List.length_take]; rfl)) ?_; (with_reducible refine (psalteryref19_Nonzero.calls k _ _ l0 t242 _ ?side1 ?side2 A10.out).mono ?_); (case side1 => repeat (first | exact (Kd.C_below HR0.out HB.out) | (with_reducible refine Kd.C_alloc ?_ _) | (with_reducible refine Kd.C_drewN ?_ _) | (with_reducible refine Kd.C_drew ?_))); (case side2 => exact HC0.out); rintro e w' ⟨rfl, ⟨nd, rfl⟩⟩; refine ⟨_, rfl, ?_⟩))
              go_meet
              case rel => exact ⟨_, (true), (by first | rfl | (simp; done) | (simp [*]; done)), H', ⟨by first | omega | exact Nat.le_refl _⟩, ⟨by repeat (first | (with_reducible first | exact HB.out | apply below_alloc | apply pw_below_drewN | apply below_drew1) | exact HB.out)⟩⟩
            · rw [if_neg c14] at H
              have c14b0 : decide (a4 < 0) = false := decide_eq_false c14
              clear c14
              have H' := Aside0.mk H
              clear H
              go_wp2_with (first | ((with_reducible refine gate_callee (f := 69) rfl ?_); refine goesL_ (some 33) rfl rfl Try.func69 (by kernel_rfl) rfl #[.slice A0 l0.length c0] rfl (by (try simp only [List.map_toArray, List.map_cons, List.map_nil]); first | done | rfl | (simp only [List.length_drop, List.length_take]; rfl)) ?_; (with_reducible refine (psalteryref19_Nonzero.calls k _ _ l0 t242 _ ?side1 ?side2 A10.out).mono ?_); (case side1 => repeat (first | exact (Kd.C_below HR0.out HB.out) | (with_reducible refine Kd.C_alloc ?_ _) | (with_reducible refine Kd.C_drewN ?_ _) | (with_reducible refine Kd.C_drew ?_))); (case side2 => exact HC0.out); rintro e w' ⟨rfl, ⟨nd, rfl⟩⟩; refine ⟨_, rfl, ?_⟩))
              go_meet
              case rel => exact ⟨_, (decide (a4 > (l0.length : Int))), (by first | rfl | (simp; done) | (simp [*]; done)), H', ⟨by first | omega | exact Nat.le_refl _⟩, ⟨by repeat (first | (with_reducible first | exact HB.out | apply below_alloc | apply pw_below_drewN | apply below_drew1) | exact HB.out)⟩⟩
    case rest =>
      clear HC8
      try clear c1
      try clear c2
      try clear p2
      try clear c4
      try clear c6
      try clear c7
      try clear c7b0
      try clear c7b1
      try clear c11
      try clear c11b0
      try clear c12
      try clear c12b0
      try clear c13
      try clear c13b0
      try clear c14
      try clear c14b0
      obtain ⟨kq, x52_7, rfl, HA, HJ7, HB⟩ := hcut
      cases kq with
      | zero => exact absurd HA.out (by simp [psalteryref19_Restore.j0])
      | succ kj7 =>
        have H := HA.out
        clear HA
        simp only [psalteryref19_Restore.j0] at H
        by_cases c15 : x52_7 = true
        · subst c15
          have H1 : (some (([] : List Int), 1)) = some (r1, r2) := by rw [if_pos rfl] at H; exact H
          clear H
          have H := H1
          clear H1
          simp only [Option.some.injEq, Prod.mk.injEq] at H
          obtain ⟨rfl, rfl⟩ := H
          go_wp2
          go_ret2
          exact ⟨_, by first | rfl | (simp [errW_none, errW_some] <;> rfl) | (simp [*, errW_none, errW_some] <;> rfl), by first | exact Kd.R_nil _ _ _ _ _ | exact Kd.N_nil _ _ _ _ _ | exact Kd.V_nil _ _ _ _ _ | exact Kd.Q_nil _ _ _ _ _ | exact Kd.S_nil _ _ _ _ _, by repeat (first | (with_reducible first | exact HB.out | apply below_alloc | apply pw_below_drewN | apply below_drew1) | exact HB.out)⟩
        · replace c15 := Bool.eq_false_iff.mpr c15
          subst c15
          have H1 : (psalteryref19_Restore.l0 kj7 l0 a1 l2 a3 a4 0 0) = some (r1, r2) := by rw [if_neg (show ¬ (false = true) by decide)] at H; exact H
          clear H
          have H := H1
          clear H1
          have H' := Aside0.mk H
          clear H
          go_wp2
          go_loopg [14] kj7 (fun kq v14 w' => ∃ (x14_2 : Int), v14 = .int .i64 x14_2 ∧ Aside0 (psalteryref19_Restore.l0 kq l0 a1 l2 a3 a4 0 x14_2 = some (r1, r2)) ∧ Aside0 (kq ≤ kj7) ∧ Aside0 (Below w.heap.size w w'))
          case atStart => exact ⟨(0), (by first | rfl | (simp; done) | (simp [*]; done)), H', ⟨Nat.le_refl _⟩, ⟨by repeat (first | (with_reducible first | exact HB.out | apply below_alloc | apply pw_below_drewN | apply below_drew1) | exact HB.out)⟩⟩
          case round =>
            clear H'
            try clear c1
            try clear c2
            try clear p2
            try clear c4
            try clear c6
            try clear c7
            try clear c7b0
            try clear c7b1
            try clear c11
            try clear c11b0
            try clear c12
            try clear c12b0
            try clear c13
            try clear c13b0
            try clear c14
            try clear c14b0
            try clear c15
            try clear p2
            obtain ⟨x14_2, rfl, HA, HK2, HB⟩ := hrel
            cases gk with
            | zero => exact absurd HA.out (by simp [psalteryref19_Restore.l0])
            | succ k2 =>
              have H := HA.out
              clear HA
              simp only [psalteryref19_Restore.l0] at H
              by_cases c16 : x14_2 < (l2.length : Int)
              · rw [if_pos c16] at H
                have c16b0 : decide (x14_2 < (l2.length : Int)) = true := decide_eq_true c16
                clear c16
                by_cases c17 : 0 ≤ x14_2
                · rw [if_pos c17] at H
                  have c17b0 : decide (0 ≤ x14_2) = true := decide_eq_true c17
                  clear c17
                  by_cases c18 : (rd l2 x14_2) = 0
                  · rw [if_pos c18] at H
                    have c18b0 : ((rd l2 x14_2) == 0) = true := beq_iff_eq.mpr c18
                    have c18b1 : ((rd l2 x14_2) != 0) = false := bne_eq_false_iff_eq.mpr c18
                    clear c18
                    have H' := Aside0.mk H
                    clear H
                    have p243 : 0 ≤ (x14_2 : Int) := of_decide_eq_true (by first | (with_reducible assumption) | assumption)
                    have q243 : x14_2 < (l2.length : Int) := of_decide_eq_true (by first | (with_reducible assumption) | assumption)
                    obtain ⟨ad243, e243, hx243_0⟩ := Kd.at_int HR2.out x14_2 p243 q243
                    cases e243
                    replace hx243_0 := (HB.out.cell (World.block_lt_of_cell? w _ hx243_0)).trans hx243_0
                    replace p243 := eq_true p243
                    replace q243 := eq_true q243
                    go_wp2
                    go_roundg k2
                    case measure => have := HJ7.out; have := HK2.out; omega
                    case rel => exact ⟨(wrap64 (x14_2 + 1)), (by first | rfl | (simp; done) | (simp [*]; done)), H', ⟨by have := HJ7.out; have := HK2.out; omega⟩, ⟨by repeat (first | (with_reducible first | exact HB.out | apply below_alloc | apply pw_below_drewN | apply below_drew1) | exact HB.out)⟩⟩
                  · rw [if_neg c18] at H
                    have c18b0 : ((rd l2 x14_2) == 0) = false := beq_eq_false_iff_ne.mpr c18
                    have c18b1 : ((rd l2 x14_2) != 0) = true := bne_iff_ne.mpr c18
                    by_cases c19 : (rd l2 x14_2) = 1
                    · rw [if_pos c19] at H
                      have c19b0 : ((rd l2 x14_2) == 1) = true := beq_iff_eq.mpr c19
                      have c19b1 : ((rd l2 x14_2) != 1) = false := bne_eq_false_iff_eq.mpr c19
                      clear c19
                      have H' := Aside0.mk H
                      clear H
                      have p243 : 0 ≤ (x14_2 : Int) := of_decide_eq_true (by first | (with_reducible assumption) | assumption)
                      have q243 : x14_2 < (l2.length : Int) := of_decide_eq_true (by first | (with_reducible assumption) | assumption)
                      obtain ⟨ad243, e243, hx243_0⟩ := Kd.at_int HR2.out x14_2 p243 q243
                      cases e243
                      replace hx243_0 := (HB.out.cell (World.block_lt_of_cell? w _ hx243_0)).trans hx243_0
                      replace p243 := eq_true p243
                      replace q243 := eq_true q243
                      have p244 : 0 ≤ (x14_2 : Int) := of_decide_eq_true (by first | (with_reducible assumption) | assumption)
                      have q244 : x14_2 < (l2.length : Int) := of_decide_eq_true (by first | (with_reducible assumption) | assumption)
                      obtain ⟨ad244, e244, hx244_0⟩ := Kd.at_int HR2.out x14_2 p244 q244
                      obtain rfl : ad243 = ad244 := (by injection e244)
                      replace hx244_0 := (HB.out.cell (World.block_lt_of_cell? w _ hx244_0)).trans hx244_0
                      replace p244 := eq_true p244
                      replace q244 := eq_true q244
                      go_wp2
                      go_roundg k2
                      case measure => have := HJ7.out; have := HK2.out; omega
                      case rel => exact ⟨(wrap64 (x14_2 + 1)), (by first | rfl | (simp; done) | (simp [*]; done)), H', ⟨by have := HJ7.out; have := HK2.out; omega⟩, ⟨by repeat (first | (with_reducible first | exact HB.out | apply below_alloc | apply pw_below_drewN | apply below_drew1) | exact HB.out)⟩⟩
                    · rw [if_neg c19] at H
                      have c19b0 : ((rd l2 x14_2) == 1) = false := beq_eq_false_iff_ne.mpr c19
                      have c19b1 : ((rd l2 x14_2) != 1) = true := bne_iff_ne.mpr c19
                      simp only [Option.some.injEq, Prod.mk.injEq] at H
                      obtain ⟨rfl, rfl⟩ := H
                      have p243 : 0 ≤ (x14_2 : Int) := of_decide_eq_true (by first | (with_reducible assumption) | assumption)
                      have q243 : x14_2 < (l2.length : Int) := of_decide_eq_true (by first | (with_reducible assumption) | assumption)
                      obtain ⟨ad243, e243, hx243_0⟩ := Kd.at_int HR2.out x14_2 p243 q243
                      cases e243
                      replace hx243_0 := (HB.out.cell (World.block_lt_of_cell? w _ hx243_0)).trans hx243_0
                      replace p243 := eq_true p243
                      replace q243 := eq_true q243
                      have p244 : 0 ≤ (x14_2 : Int) := of_decide_eq_true (by first | (with_reducible assumption) | assumption)
                      have q244 : x14_2 < (l2.length : Int) := of_decide_eq_true (by first | (with_reducible assumption) | assumption)
                      obtain ⟨ad244, e244, hx244_0⟩ := Kd.at_int HR2.out x14_2 p244 q244
                      obtain rfl : ad243 = ad244 := (by injection e244)
                      replace hx244_0 := (HB.out.cell (World.block_lt_of_cell? w _ hx244_0)).trans hx244_0
                      replace p244 := eq_true p244
                      replace q244 := eq_true q244
                      go_wp2
                      go_ret2
                      exact ⟨_, by first | rfl | (simp [errW_none, errW_some] <;> rfl) | (simp [*, errW_none, errW_some] <;> rfl), by first | exact Kd.R_nil _ _ _ _ _ | exact Kd.N_nil _ _ _ _ _ | exact Kd.V_nil _ _ _ _ _ | exact Kd.Q_nil _ _ _ _ _ | exact Kd.S_nil _ _ _ _ _, by repeat (first | (with_reducible first | exact HB.out | apply below_alloc | apply pw_below_drewN | apply below_drew1) | exact HB.out)⟩
                · rw [if_neg c17] at H
                  exact absurd H (by simp)
              · rw [if_neg c16] at H
                have c16b0 : decide (x14_2 < (l2.length : Int)) = false := decide_eq_false c16
                clear c16
                have H' := Aside0.mk H
                clear H
                go_wp2
                go_loopg [13, 15] k2 (fun kq v13 v15 w' => ∃ (x13_3 : Int) (x15_3 : Int), v13 = .int .i64 x13_3 ∧ v15 = .int .i64 x15_3 ∧ Aside0 (psalteryref19_Restore.l1 kq l0 a1 l2 a3 a4 x13_3 x15_3 = some (r1, r2)) ∧ Aside0 (kq ≤ k2) ∧ Aside0 (Below w.heap.size w w'))
                case atStart => exact ⟨(0), (0), (by first | rfl | (simp; done) | (simp [*]; done)), (by first | rfl | (simp; done) | (simp [*]; done)), H', ⟨Nat.le_refl _⟩, ⟨by repeat (first | (with_reducible first | exact HB.out | apply below_alloc | apply pw_below_drewN | apply below_drew1) | exact HB.out)⟩⟩
                case round =>
                  clear H'
                  try clear c1
                  try clear c2
                  try clear p2
                  try clear q2
                  try clear hx2
                  try clear c4
                  try clear c6
                  try clear p6
                  try clear c7
                  try clear c7b0
                  try clear c7b1
                  try clear c11
                  try clear c11b0
                  try clear c12
                  try clear c12b0
                  try clear c13
                  try clear c13b0
                  try clear c14
                  try clear c14b0
                  try clear c15
                  try clear c16
                  try clear c16b0
                  try clear c17
                  try clear c17b0
                  try clear c18
                  try clear c18b0
                  try clear c18b1
                  try clear c19
                  try clear c19b0
                  try clear c19b1
                  try clear hx243_0
                  try clear hx244_0
                  try clear p2
                  try clear p243
                  try clear p244
                  try clear q243
                  try clear q244
                  obtain ⟨x13_3, x15_3, rfl, rfl, HA, HK3, HB⟩ := hrel
                  cases gk with
                  | zero => exact absurd HA.out (by simp [psalteryref19_Restore.l1])
                  | succ k3 =>
                    have H := HA.out
                    clear HA
                    simp only [psalteryref19_Restore.l1] at H
                    by_cases c20 : x15_3 < (l0.length : Int)
                    · rw [if_pos c20] at H
                      have c20b0 : decide (x15_3 < (l0.length : Int)) = true := decide_eq_true c20
                      clear c20
                      by_cases c21 : 0 ≤ x15_3
                      · rw [if_pos c21] at H
                        have c21b0 : decide (0 ≤ x15_3) = true := decide_eq_true c21
                        clear c21
                        replace H := Option.bind_eq_some_iff.mp H
                        obtain ⟨t246, A220, H⟩ := H
                        replace H : (psalteryref19_Restore.l1 k3 l0 a1 l2 a3 a4 (wrap64 (x13_3 + t246)) (wrap64 (x15_3 + 1))) = some (r1, r2) := H
                        have A22 := Aside0.mk A220
                        clear A220
                        have H' := Aside0.mk H
                        clear H
                        have p245 : 0 ≤ (x15_3 : Int) := of_decide_eq_true (by first | (with_reducible assumption) | assumption)
                        have q245 : x15_3 < (l0.length : Int) := of_decide_eq_true (by first | (with_reducible assumption) | assumption)
                        obtain ⟨ad245, e245, hx245_0⟩ := Kd.at_int HR0.out x15_3 p245 q245
                        cases e245
                        replace hx245_0 := (HB.out.cell (World.block_lt_of_cell? w _ hx245_0)).trans hx245_0
                        replace p245 := eq_true p245
                        replace q245 := eq_true q245
                        go_wp2_with (first | ((with_reducible refine gate_callee (f := 49) rfl ?_); refine goesL_ (some 82) rfl rfl Try.func49 (by kernel_rfl) rfl #[.int .i64 (rd l0 x15_3)] rfl (by (try simp only [List.map_toArray, List.map_cons, List.map_nil]); first | done | rfl | (simp only [List.length_drop, List.length_take]; rfl)) ?_; (with_reducible refine (psalteryref19_abs.calls (rd l0 x15_3) t246 _ A22.out).mono ?_); rintro e w' ⟨rfl, ⟨nd, rfl⟩⟩; refine ⟨_, rfl, ?_⟩))
                        go_roundg k3
                        case measure => have := HJ7.out; have := HK2.out; have := HK3.out; omega
                        case rel => exact ⟨(wrap64 (x13_3 + t246)), (wrap64 (x15_3 + 1)), (by first | rfl | (simp; done) | (simp [*]; done)), (by first | rfl | (simp; done) | (simp [*]; done)), H', ⟨by have := HJ7.out; have := HK2.out; have := HK3.out; omega⟩, ⟨by repeat (first | (with_reducible first | exact HB.out | apply below_alloc | apply pw_below_drewN | apply below_drew1) | exact HB.out)⟩⟩
                      · rw [if_neg c21] at H
                        exact absurd H (by simp)
                    · rw [if_neg c20] at H
                      have c20b0 : decide (x15_3 < (l0.length : Int)) = false := decide_eq_false c20
                      clear c20
                      replace H := Option.bind_eq_some_iff.mp H
                      obtain ⟨t247, A230, H⟩ := H
                      replace H : (psalteryref19_Restore.l2 k3 l0 l2 a3 a4 (Int.tmod x13_3 65536) t247 ([] : List Int) 0 0) = some (r1, r2) := H
                      have A23 := Aside0.mk A230
                      clear A230
                      have H' := Aside0.mk H
                      clear H
                      go_wp2_with (first | ((with_reducible refine gate_callee (f := 18) rfl ?_); refine goesL_ (some 87) rfl rfl Try.func18 (by kernel_rfl) rfl #[.int .i64 a1] rfl (by (try simp only [List.map_toArray, List.map_cons, List.map_nil]); first | done | rfl | (simp only [List.length_drop, List.length_take]; rfl)) ?_; (with_reducible refine (psalteryref19_Step.calls k3 a1 t247 _ A23.out).mono ?_); rintro e w24 ⟨rfl, hb⟩; refine ⟨_, rfl, ?_⟩; have n0_ := Aside0.mk (below_step (by repeat (first | (with_reducible first | exact HB.out | apply below_alloc | apply pw_below_drewN | apply below_drew1) | exact HB.out)) hb); clear HB; have HB := n0_; clear n0_; (try clear hb); (try clear hb2); (try clear hk); (try clear hi)))
                      go_loopg [13, 17, 18, 19] k3 (fun kq v13 v17 v18 v19 w' => ∃ (x13_4 : Int) (x17_4 : List Int) (x18_4 : Int) (x19_4 : Int), v13 = .int .i64 x13_4 ∧ v18 = .int .i64 x18_4 ∧ v19 = .int .i64 x19_4 ∧ Aside0 (psalteryref19_Restore.l2 kq l0 l2 a3 a4 x13_4 t247 x17_4 x18_4 x19_4 = some (r1, r2)) ∧ Aside0 (kq ≤ k3) ∧ Aside0 (Kd.R (Kd.int .i32) 21 w' w.heap.size (fun _ => True) v17 x17_4) ∧ Aside0 (Below w.heap.size w w'))
                      case atStart => exact ⟨(Int.tmod x13_3 65536), (([] : List Int)), (0), (0), (by first | rfl | (simp; done) | (simp [*]; done)), (by first | rfl | (simp; done) | (simp [*]; done)), (by first | rfl | (simp; done) | (simp [*]; done)), H', ⟨Nat.le_refl _⟩, ⟨by first | exact Kd.R_nil _ _ _ _ _ | exact Kd.N_nil _ _ _ _ _ | exact Kd.V_nil _ _ _ _ _ | exact Kd.Q_nil _ _ _ _ _ | exact Kd.S_nil _ _ _ _ _⟩, ⟨by repeat (first | (with_reducible first | exact HB.out | apply below_alloc | apply pw_below_drewN | apply below_drew1) | exact HB.out)⟩⟩
                      case round =>
                        clear H'
                        try clear c1
                        try clear c2
                        try clear p2
                        try clear q2
                        try clear hx2
                        try clear c4
                        try clear c6
                        try clear p6
                        try clear c7
                        try clear c7b0
                        try clear c7b1
                        try clear c11
                        try clear c11b0
                        try clear c12
                        try clear c12b0
                        try clear c13
                        try clear c13b0
                        try clear c14
                        try clear c14b0
                        try clear c15
                        try clear c16
                        try clear c16b0
                        try clear c17
                        try clear c17b0
                        try clear c18
                        try clear c18b0
                        try clear c18b1
                        try clear c19
                        try clear c19b0
                        try clear c19b1
                        try clear c20
                        try clear c20b0
                        try clear c21
                        try clear c21b0
                        try clear p24
                        try clear q24
                        try clear hx24
                        try clear hx243_0
                        try clear hx244_0
                        try clear hx245_0
                        try clear p2
                        try clear p243
                        try clear p244
                        try clear p245
                        try clear p6
                        try clear q2
                        try clear q243
                        try clear q244
                        try clear q245
                        obtain ⟨x13_4, x17_4, x18_4, x19_4, rfl, rfl, rfl, HA, HK4, HO_17, HB⟩ := hrel
                        cases gk with
                        | zero => exact absurd HA.out (by simp [psalteryref19_Restore.l2])
                        | succ k4 =>
                          have H := HA.out
                          clear HA
                          simp only [psalteryref19_Restore.l2] at H
                          by_cases c25 : x19_4 < (l0.length : Int)
                          · rw [if_pos c25] at H
                            have c25b0 : decide (x19_4 < (l0.length : Int)) = true := decide_eq_true c25
                            clear c25
                            by_cases c26 : 0 ≤ x19_4
                            · rw [if_pos c26] at H
                              have c26b0 : decide (0 ≤ x19_4) = true := decide_eq_true c26
                              clear c26
                              by_cases c27 : (rd l0 x19_4) = 0
                              · rw [if_pos c27] at H
                                have c27b0 : ((rd l0 x19_4) == 0) = true := beq_iff_eq.mpr c27
                                have c27b1 : ((rd l0 x19_4) != 0) = false := bne_eq_false_iff_eq.mpr c27
                                clear c27
                                have HC28 := Aside0.mk H
                                clear H
                                have p248 : 0 ≤ (x19_4 : Int) := of_decide_eq_true (by first | (with_reducible assumption) | assumption)
                                have q248 : x19_4 < (l0.length : Int) := of_decide_eq_true (by first | (with_reducible assumption) | assumption)
                                obtain ⟨ad248, e248, hx248_0⟩ := Kd.at_int HR0.out x19_4 p248 q248
                                cases e248
                                replace hx248_0 := (HB.out.cell (World.block_lt_of_cell? w _ hx248_0)).trans hx248_0
                                replace p248 := eq_true p248
                                replace q248 := eq_true q248
                                go_upto_region 34 with (fail)
                                go_cut [140] (fun v140 wc => ∃ (kq : Nat) (x140_27 : Bool), v140 = .bool x140_27 ∧ Aside0 (psalteryref19_Restore.j4 kq l0 l2 a3 a4 x13_4 t247 x17_4 x18_4 x19_4 0 x140_27 = some (r1, r2)) ∧ Aside0 (kq ≤ k4) ∧ Aside0 (Kd.R (Kd.int .i32) 21 wc w.heap.size (fun _ => True) u17 x17_4) ∧ Aside0 (Below w.heap.size w wc))
                                case first =>
                                  have H := HC28.out
                                  clear HC28
                                  by_cases c29 : a3 > 0
                                  · rw [if_pos c29] at H
                                    have c29b0 : decide (0 < a3) = true := decide_eq_true c29
                                    clear c29
                                    (first | rw [c29b0] | (simp only [i64_w, i32_w]; rw [c29b0]) | skip)
                                    have H' := Aside0.mk H
                                    clear H
                                    go_wp2
                                    go_meet
                                    case rel => exact ⟨_, (decide (x19_4 < a4)), (by first | rfl | (simp; done) | (simp [*]; done)), H', ⟨by have := HJ7.out; have := HK2.out; have := HK3.out; have := HK4.out; first | omega | exact Nat.le_refl _⟩, ⟨by (with_reducible repeat (first | apply Kd.R_alloc | apply Kd.R_drewN | apply Kd.R_drew)); exact HO_17.out⟩, ⟨by repeat (first | (with_reducible first | exact HB.out | apply below_alloc | apply pw_below_drewN | apply below_drew1) | exact HB.out)⟩⟩
                                  · rw [if_neg c29] at H
                                    have c29b0 : decide (0 < a3) = false := decide_eq_false c29
                                    clear c29
                                    (first | rw [c29b0] | (simp only [i64_w, i32_w]; rw [c29b0]) | skip)
                                    have H' := Aside0.mk H
                                    clear H
                                    go_wp2
                                    go_meet
                                    case rel => exact ⟨_, (false), (by first | rfl | (simp; done) | (simp [*]; done)), H', ⟨by have := HJ7.out; have := HK2.out; have := HK3.out; have := HK4.out; first | omega | exact Nat.le_refl _⟩, ⟨by (with_reducible repeat (first | apply Kd.R_alloc | apply Kd.R_drewN | apply Kd.R_drew)); exact HO_17.out⟩, ⟨by repeat (first | (with_reducible first | exact HB.out | apply below_alloc | apply pw_below_drewN | apply below_drew1) | exact HB.out)⟩⟩
                                case rest =>
                                  clear HC28
                                  try clear c1
                                  try clear c2
                                  try clear p2
                                  try clear q2
                                  try clear hx2
                                  try clear c4
                                  try clear c6
                                  try clear p6
                                  try clear c7
                                  try clear c7b0
                                  try clear c7b1
                                  try clear c11
                                  try clear c11b0
                                  try clear c12
                                  try clear c12b0
                                  try clear c13
                                  try clear c13b0
                                  try clear c14
                                  try clear c14b0
                                  try clear c15
                                  try clear c16
                                  try clear c16b0
                                  try clear c17
                                  try clear c17b0
                                  try clear c18
                                  try clear c18b0
                                  try clear c18b1
                                  try clear c19
                                  try clear c19b0
                                  try clear c19b1
                                  try clear c20
                                  try clear c20b0
                                  try clear c21
                                  try clear c21b0
                                  try clear p24
                                  try clear q24
                                  try clear hx24
                                  try clear c25
                                  try clear c25b0
                                  try clear c26
                                  try clear c26b0
                                  try clear c27
                                  try clear c27b0
                                  try clear c27b1
                                  try clear c29
                                  try clear c29b0
                                  try clear hx243_0
                                  try clear hx244_0
                                  try clear hx245_0
                                  try clear hx248_0
                                  try clear p2
                                  try clear p24
                                  try clear p243
                                  try clear p244
                                  try clear p245
                                  try clear p248
                                  try clear p6
                                  try clear q2
                                  try clear q24
                                  try clear q243
                                  try clear q244
                                  try clear q245
                                  try clear q248
                                  obtain ⟨kq, x140_27, rfl, HA, HJ27, HO_17, HB⟩ := hcut
                                  cases kq with
                                  | zero => exact absurd HA.out (by simp [psalteryref19_Restore.j4])
                                  | succ kj27 =>
                                    have H := HA.out
                                    clear HA
                                    simp only [psalteryref19_Restore.j4] at H
                                    by_cases c30 : x140_27 = true
                                    · subst c30
                                      have H1 : ((psalteryref01_Round.f (wrap64 (Int.tdiv (wrap64 (a3 * t247)) 16)) 16).bind fun t249 => (if (Int.tmod (wrap64 ((wrap64 (x13_4 * 13849)) + 16831)) 65536) ≥ 32768 then ((psalteryref01_Sat.f (wrap64 (-t249)) 32).bind fun t250 => (if x17_4.length < 35184372088832 then (psalteryref19_Restore.l2 kj27 l0 l2 a3 a4 (Int.tmod (wrap64 ((wrap64 (x13_4 * 13849)) + 16831)) 65536) t247 (x17_4 ++ [wrap32 (t250)]) x18_4 (wrap64 (x19_4 + 1))) else (none))) else ((psalteryref01_Sat.f t249 32).bind fun t254 => (if x17_4.length < 35184372088832 then (psalteryref19_Restore.l2 kj27 l0 l2 a3 a4 (Int.tmod (wrap64 ((wrap64 (x13_4 * 13849)) + 16831)) 65536) t247 (x17_4 ++ [wrap32 (t254)]) x18_4 (wrap64 (x19_4 + 1))) else (none))))) = some (r1, r2) := by rw [if_pos rfl] at H; exact H
                                      clear H
                                      have H := H1
                                      clear H1
                                      replace H := Option.bind_eq_some_iff.mp H
                                      obtain ⟨t249, A310, H⟩ := H
                                      replace H : (if (Int.tmod (wrap64 ((wrap64 (x13_4 * 13849)) + 16831)) 65536) ≥ 32768 then ((psalteryref01_Sat.f (wrap64 (-t249)) 32).bind fun t250 => (if x17_4.length < 35184372088832 then (psalteryref19_Restore.l2 kj27 l0 l2 a3 a4 (Int.tmod (wrap64 ((wrap64 (x13_4 * 13849)) + 16831)) 65536) t247 (x17_4 ++ [wrap32 (t250)]) x18_4 (wrap64 (x19_4 + 1))) else (none))) else ((psalteryref01_Sat.f t249 32).bind fun t254 => (if x17_4.length < 35184372088832 then (psalteryref19_Restore.l2 kj27 l0 l2 a3 a4 (Int.tmod (wrap64 ((wrap64 (x13_4 * 13849)) + 16831)) 65536) t247 (x17_4 ++ [wrap32 (t254)]) x18_4 (wrap64 (x19_4 + 1))) else (none)))) = some (r1, r2) := H
                                      have A31 := Aside0.mk A310
                                      clear A310
                                      by_cases c32 : (Int.tmod (wrap64 ((wrap64 (x13_4 * 13849)) + 16831)) 65536) ≥ 32768
                                      · rw [if_pos c32] at H
                                        have c32b0 : decide (32768 ≤ (Int.tmod (wrap64 ((wrap64 (x13_4 * 13849)) + 16831)) 65536)) = true := decide_eq_true c32
                                        clear c32
                                        replace H := Option.bind_eq_some_iff.mp H
                                        obtain ⟨t250, A330, H⟩ := H
                                        replace H : (if x17_4.length < 35184372088832 then (psalteryref19_Restore.l2 kj27 l0 l2 a3 a4 (Int.tmod (wrap64 ((wrap64 (x13_4 * 13849)) + 16831)) 65536) t247 (x17_4 ++ [wrap32 (t250)]) x18_4 (wrap64 (x19_4 + 1))) else (none)) = some (r1, r2) := H
                                        have A33 := Aside0.mk A330
                                        clear A330
                                        by_cases c34 : x17_4.length < 35184372088832
                                        · rw [if_pos c34] at H
                                          have LMc34 := Aside0.mk c34
                                          clear c34
                                          obtain ⟨y251, hy251⟩ : ∃ y_ : List Int, y_ = (x17_4 ++ [wrap32 (t250)]) := ⟨_, rfl⟩
                                          replace H : (psalteryref19_Restore.l2 kj27 l0 l2 a3 a4 (Int.tmod (wrap64 ((wrap64 (x13_4 * 13849)) + 16831)) 65536) t247 y251 x18_4 (wrap64 (x19_4 + 1))) = some (r1, r2) := by first | (rw [hy251]; with_reducible exact H) | (have H2_ := (Option.bind_some _ _).symm.trans H; rw [hy251]; with_reducible exact H2_) | (have H2_ := (Option.bind_some _ _).symm.trans H; with_reducible exact H2_) | with_reducible exact H | (rw [hy251]; exact H) | exact H
                                          have Ny251 := Aside0.mk hy251
                                          clear hy251
                                          have H' := Aside0.mk H
                                          clear H
                                          go_wp2_with (first | ((with_reducible refine gate_callee (f := 53) rfl ?_); refine goesL_ (some 149) rfl rfl Try.func53 (by kernel_rfl) rfl #[.int .i64 (wrap64 (Int.tdiv (wrap64 (a3 * t247)) 16)), .int .i64 16] rfl (by (try simp only [List.map_toArray, List.map_cons, List.map_nil]); first | done | rfl | (simp only [List.length_drop, List.length_take]; rfl)) ?_; (with_reducible refine (psalteryref01_Round.calls (wrap64 (Int.tdiv (wrap64 (a3 * t247)) 16)) 16 t249 _ A31.out).mono ?_); rintro e w35 ⟨rfl, hb⟩; refine ⟨_, rfl, ?_⟩; have n0_ := Aside0.mk (Kd.R_below (by (with_reducible repeat (first | apply Kd.R_alloc | apply Kd.R_drewN | apply Kd.R_drew)); exact HO_17.out) hb); have n1_ := Aside0.mk (below_step (by repeat (first | (with_reducible first | exact HB.out | apply below_alloc | apply pw_below_drewN | apply below_drew1) | exact HB.out)) hb); clear HO_17; clear HB; have HO_17 := n0_; have HB := n1_; clear n0_ n1_; (try clear hb); (try clear hb2); (try clear hk); (try clear hi)) | ((with_reducible refine gate_callee (f := 61) rfl ?_); refine goesL_ (some 156) rfl rfl Try.func61 (by kernel_rfl) rfl #[.int .i64 (wrap64 (-t249)), .int .i64 32] rfl (by (try simp only [List.map_toArray, List.map_cons, List.map_nil]); first | done | rfl | (simp only [List.length_drop, List.length_take]; rfl)) ?_; (with_reducible refine (psalteryref01_Sat.calls (wrap64 (-t249)) 32 t250 _ A33.out).mono ?_); rintro e w' ⟨rfl, ⟨nd, rfl⟩⟩; refine ⟨_, rfl, ?_⟩) | ((with_reducible refine gate_builtin (b := .append) (xs := #[.tmp 154, .tmp 158]) rfl ?_); (try (refine gate_guard (by rfl) ?_; dsimp only)); at_builtin; refine Kd.R_append (Kd.int .i32) (w0 := w) w.heap.size rfl (.tmp 154) (.tmp 158) 22 21 (.int .i32 0) 4 rfl Try.underlying22 info21 rfl (by decide) (by omega) u17 x17_4 (wrap32 (t250)) [.int .i32 (wrap32 (t250))] (fun _ => True) (fun _ => False) rfl rfl ?aP (fun _ hk => hk.elim) ?aF ?aO ?aB ?aS ?aL ?_; (case aP => exact rfl); (case aB => exact (by repeat (first | (with_reducible first | exact HB.out | apply below_alloc | apply pw_below_drewN | apply below_drew1) | exact HB.out))); (case aF => exact (fun _ _ => trivial)); (case aO => exact (by (with_reducible repeat (first | apply Kd.R_alloc | apply Kd.R_drewN | apply Kd.R_drew)); exact HO_17.out)); (case aS => exact (below_size (by repeat (first | (with_reducible first | exact HB.out | apply below_alloc | apply pw_below_drewN | apply below_drew1) | exact HB.out)))); (case aL => have := LMc34.out; omega); intro v252 w36 ho hb hg hat; rw [← Ny251.out] at ho; have n0_ := Aside0.mk (hb); have n1_ := Aside0.mk (ho); clear HB; clear HO_17; have HB := n0_; have HO253 := n1_; clear n0_ n1_; clear ho hb hg hat))
                                          go_roundg kj27
                                          case measure => have := HJ7.out; have := HK2.out; have := HK3.out; have := HK4.out; have := HJ27.out; omega
                                          case rel => exact ⟨(Int.tmod (wrap64 ((wrap64 (x13_4 * 13849)) + 16831)) 65536), (y251), (x18_4), (wrap64 (x19_4 + 1)), (by first | rfl | (simp; done) | (simp [*]; done)), (by first | rfl | (simp; done) | (simp [*]; done)), (by first | rfl | (simp; done) | (simp [*]; done)), H', ⟨by have := HJ7.out; have := HK2.out; have := HK3.out; have := HK4.out; have := HJ27.out; omega⟩, ⟨by (with_reducible repeat (first | apply Kd.R_alloc | apply Kd.R_drewN | apply Kd.R_drew)); exact HO253.out⟩, ⟨by repeat (first | (with_reducible first | exact HB.out | apply below_alloc | apply pw_below_drewN | apply below_drew1) | exact HB.out)⟩⟩
                                        · rw [if_neg c34] at H
                                          exact absurd H (by simp)
                                      · rw [if_neg c32] at H
                                        have c32b0 : decide (32768 ≤ (Int.tmod (wrap64 ((wrap64 (x13_4 * 13849)) + 16831)) 65536)) = false := decide_eq_false c32
                                        clear c32
                                        replace H := Option.bind_eq_some_iff.mp H
                                        obtain ⟨t254, A370, H⟩ := H
                                        replace H : (if x17_4.length < 35184372088832 then (psalteryref19_Restore.l2 kj27 l0 l2 a3 a4 (Int.tmod (wrap64 ((wrap64 (x13_4 * 13849)) + 16831)) 65536) t247 (x17_4 ++ [wrap32 (t254)]) x18_4 (wrap64 (x19_4 + 1))) else (none)) = some (r1, r2) := H
                                        have A37 := Aside0.mk A370
                                        clear A370
                                        by_cases c38 : x17_4.length < 35184372088832
                                        · rw [if_pos c38] at H
                                          have LMc38 := Aside0.mk c38
                                          clear c38
                                          obtain ⟨y255, hy255⟩ : ∃ y_ : List Int, y_ = (x17_4 ++ [wrap32 (t254)]) := ⟨_, rfl⟩
                                          replace H : (psalteryref19_Restore.l2 kj27 l0 l2 a3 a4 (Int.tmod (wrap64 ((wrap64 (x13_4 * 13849)) + 16831)) 65536) t247 y255 x18_4 (wrap64 (x19_4 + 1))) = some (r1, r2) := by first | (rw [hy255]; with_reducible exact H) | (have H2_ := (Option.bind_some _ _).symm.trans H; rw [hy255]; with_reducible exact H2_) | (have H2_ := (Option.bind_some _ _).symm.trans H; with_reducible exact H2_) | with_reducible exact H | (rw [hy255]; exact H) | exact H
                                          have Ny255 := Aside0.mk hy255
                                          clear hy255
                                          have H' := Aside0.mk H
                                          clear H
                                          go_wp2_with (first | ((with_reducible refine gate_callee (f := 53) rfl ?_); refine goesL_ (some 149) rfl rfl Try.func53 (by kernel_rfl) rfl #[.int .i64 (wrap64 (Int.tdiv (wrap64 (a3 * t247)) 16)), .int .i64 16] rfl (by (try simp only [List.map_toArray, List.map_cons, List.map_nil]); first | done | rfl | (simp only [List.length_drop, List.length_take]; rfl)) ?_; (with_reducible refine (psalteryref01_Round.calls (wrap64 (Int.tdiv (wrap64 (a3 * t247)) 16)) 16 t249 _ A31.out).mono ?_); rintro e w39 ⟨rfl, hb⟩; refine ⟨_, rfl, ?_⟩; have n0_ := Aside0.mk (Kd.R_below (by (with_reducible repeat (first | apply Kd.R_alloc | apply Kd.R_drewN | apply Kd.R_drew)); exact HO_17.out) hb); have n1_ := Aside0.mk (below_step (by repeat (first | (with_reducible first | exact HB.out | apply below_alloc | apply pw_below_drewN | apply below_drew1) | exact HB.out)) hb); clear HO_17; clear HB; have HO_17 := n0_; have HB := n1_; clear n0_ n1_; (try clear hb); (try clear hb2); (try clear hk); (try clear hi)) | ((with_reducible refine gate_callee (f := 61) rfl ?_); refine goesL_ (some 156) rfl rfl Try.func61 (by kernel_rfl) rfl #[.int .i64 t249, .int .i64 32] rfl (by (try simp only [List.map_toArray, List.map_cons, List.map_nil]); first | done | rfl | (simp only [List.length_drop, List.length_take]; rfl)) ?_; (with_reducible refine (psalteryref01_Sat.calls t249 32 t254 _ A37.out).mono ?_); rintro e w' ⟨rfl, ⟨nd, rfl⟩⟩; refine ⟨_, rfl, ?_⟩) | ((with_reducible refine gate_builtin (b := .append) (xs := #[.tmp 154, .tmp 158]) rfl ?_); (try (refine gate_guard (by rfl) ?_; dsimp only)); at_builtin; refine Kd.R_append (Kd.int .i32) (w0 := w) w.heap.size rfl (.tmp 154) (.tmp 158) 22 21 (.int .i32 0) 4 rfl Try.underlying22 info21 rfl (by decide) (by omega) u17 x17_4 (wrap32 (t254)) [.int .i32 (wrap32 (t254))] (fun _ => True) (fun _ => False) rfl rfl ?aP (fun _ hk => hk.elim) ?aF ?aO ?aB ?aS ?aL ?_; (case aP => exact rfl); (case aB => exact (by repeat (first | (with_reducible first | exact HB.out | apply below_alloc | apply pw_below_drewN | apply below_drew1) | exact HB.out))); (case aF => exact (fun _ _ => trivial)); (case aO => exact (by (with_reducible repeat (first | apply Kd.R_alloc | apply Kd.R_drewN | apply Kd.R_drew)); exact HO_17.out)); (case aS => exact (below_size (by repeat (first | (with_reducible first | exact HB.out | apply below_alloc | apply pw_below_drewN | apply below_drew1) | exact HB.out)))); (case aL => have := LMc38.out; omega); intro v256 w40 ho hb hg hat; rw [← Ny255.out] at ho; have n0_ := Aside0.mk (hb); have n1_ := Aside0.mk (ho); clear HB; clear HO_17; have HB := n0_; have HO257 := n1_; clear n0_ n1_; clear ho hb hg hat))
                                          go_roundg kj27
                                          case measure => have := HJ7.out; have := HK2.out; have := HK3.out; have := HK4.out; have := HJ27.out; omega
                                          case rel => exact ⟨(Int.tmod (wrap64 ((wrap64 (x13_4 * 13849)) + 16831)) 65536), (y255), (x18_4), (wrap64 (x19_4 + 1)), (by first | rfl | (simp; done) | (simp [*]; done)), (by first | rfl | (simp; done) | (simp [*]; done)), (by first | rfl | (simp; done) | (simp [*]; done)), H', ⟨by have := HJ7.out; have := HK2.out; have := HK3.out; have := HK4.out; have := HJ27.out; omega⟩, ⟨by (with_reducible repeat (first | apply Kd.R_alloc | apply Kd.R_drewN | apply Kd.R_drew)); exact HO257.out⟩, ⟨by repeat (first | (with_reducible first | exact HB.out | apply below_alloc | apply pw_below_drewN | apply below_drew1) | exact HB.out)⟩⟩
                                        · rw [if_neg c38] at H
                                          exact absurd H (by simp)
                                    · replace c30 := Bool.eq_false_iff.mpr c30
                                      subst c30
                                      have H1 : ((psalteryref01_Sat.f 0 32).bind fun t258 => (if x17_4.length < 35184372088832 then (psalteryref19_Restore.l2 kj27 l0 l2 a3 a4 x13_4 t247 (x17_4 ++ [wrap32 (t258)]) x18_4 (wrap64 (x19_4 + 1))) else (none))) = some (r1, r2) := by rw [if_neg (show ¬ (false = true) by decide)] at H; exact H
                                      clear H
                                      have H := H1
                                      clear H1
                                      replace H := Option.bind_eq_some_iff.mp H
                                      obtain ⟨t258, A410, H⟩ := H
                                      replace H : (if x17_4.length < 35184372088832 then (psalteryref19_Restore.l2 kj27 l0 l2 a3 a4 x13_4 t247 (x17_4 ++ [wrap32 (t258)]) x18_4 (wrap64 (x19_4 + 1))) else (none)) = some (r1, r2) := H
                                      have A41 := Aside0.mk A410
                                      clear A410
                                      by_cases c42 : x17_4.length < 35184372088832
                                      · rw [if_pos c42] at H
                                        have LMc42 := Aside0.mk c42
                                        clear c42
                                        obtain ⟨y259, hy259⟩ : ∃ y_ : List Int, y_ = (x17_4 ++ [wrap32 (t258)]) := ⟨_, rfl⟩
                                        replace H : (psalteryref19_Restore.l2 kj27 l0 l2 a3 a4 x13_4 t247 y259 x18_4 (wrap64 (x19_4 + 1))) = some (r1, r2) := by first | (rw [hy259]; with_reducible exact H) | (have H2_ := (Option.bind_some _ _).symm.trans H; rw [hy259]; with_reducible exact H2_) | (have H2_ := (Option.bind_some _ _).symm.trans H; with_reducible exact H2_) | with_reducible exact H | (rw [hy259]; exact H) | exact H
                                        have Ny259 := Aside0.mk hy259
                                        clear hy259
                                        have H' := Aside0.mk H
                                        clear H
                                        go_wp2_with (first | ((with_reducible refine gate_callee (f := 61) rfl ?_); refine goesL_ (some 156) rfl rfl Try.func61 (by kernel_rfl) rfl #[.int .i64 0, .int .i64 32] rfl (by (try simp only [List.map_toArray, List.map_cons, List.map_nil]); first | done | rfl | (simp only [List.length_drop, List.length_take]; rfl)) ?_; (with_reducible refine (psalteryref01_Sat.calls 0 32 t258 _ A41.out).mono ?_); rintro e w' ⟨rfl, ⟨nd, rfl⟩⟩; refine ⟨_, rfl, ?_⟩) | ((with_reducible refine gate_builtin (b := .append) (xs := #[.tmp 154, .tmp 158]) rfl ?_); (try (refine gate_guard (by rfl) ?_; dsimp only)); at_builtin; refine Kd.R_append (Kd.int .i32) (w0 := w) w.heap.size rfl (.tmp 154) (.tmp 158) 22 21 (.int .i32 0) 4 rfl Try.underlying22 info21 rfl (by decide) (by omega) u17 x17_4 (wrap32 (t258)) [.int .i32 (wrap32 (t258))] (fun _ => True) (fun _ => False) rfl rfl ?aP (fun _ hk => hk.elim) ?aF ?aO ?aB ?aS ?aL ?_; (case aP => exact rfl); (case aB => exact (by repeat (first | (with_reducible first | exact HB.out | apply below_alloc | apply pw_below_drewN | apply below_drew1) | exact HB.out))); (case aF => exact (fun _ _ => trivial)); (case aO => exact (by (with_reducible repeat (first | apply Kd.R_alloc | apply Kd.R_drewN | apply Kd.R_drew)); exact HO_17.out)); (case aS => exact (below_size (by repeat (first | (with_reducible first | exact HB.out | apply below_alloc | apply pw_below_drewN | apply below_drew1) | exact HB.out)))); (case aL => have := LMc42.out; omega); intro v260 w43 ho hb hg hat; rw [← Ny259.out] at ho; have n0_ := Aside0.mk (hb); have n1_ := Aside0.mk (ho); clear HB; clear HO_17; have HB := n0_; have HO261 := n1_; clear n0_ n1_; clear ho hb hg hat))
                                        go_roundg kj27
                                        case measure => have := HJ7.out; have := HK2.out; have := HK3.out; have := HK4.out; have := HJ27.out; omega
                                        case rel => exact ⟨(x13_4), (y259), (x18_4), (wrap64 (x19_4 + 1)), (by first | rfl | (simp; done) | (simp [*]; done)), (by first | rfl | (simp; done) | (simp [*]; done)), (by first | rfl | (simp; done) | (simp [*]; done)), H', ⟨by have := HJ7.out; have := HK2.out; have := HK3.out; have := HK4.out; have := HJ27.out; omega⟩, ⟨by (with_reducible repeat (first | apply Kd.R_alloc | apply Kd.R_drewN | apply Kd.R_drew)); exact HO261.out⟩, ⟨by repeat (first | (with_reducible first | exact HB.out | apply below_alloc | apply pw_below_drewN | apply below_drew1) | exact HB.out)⟩⟩
                                      · rw [if_neg c42] at H
                                        exact absurd H (by simp)
                              · rw [if_neg c27] at H
                                have c27b0 : ((rd l0 x19_4) == 0) = false := beq_eq_false_iff_ne.mpr c27
                                have c27b1 : ((rd l0 x19_4) != 0) = true := bne_iff_ne.mpr c27
                                replace H := Option.bind_eq_some_iff.mp H
                                obtain ⟨t263, A440, H⟩ := H
                                replace H : (if x18_4 < (l2.length : Int) then (if 0 ≤ x18_4 then (if (rd l2 x18_4) = 1 then (psalteryref19_Restore.j5 k4 l0 l2 a3 a4 x13_4 t247 x17_4 (wrap64 (x18_4 + 1)) x19_4 (wrap64 ((wrap64 (t263 * t247)) + (wrap64 (Int.tdiv t247 4))))) else (psalteryref19_Restore.j5 k4 l0 l2 a3 a4 x13_4 t247 x17_4 (wrap64 (x18_4 + 1)) x19_4 (wrap64 ((wrap64 (t263 * t247)) - (wrap64 (Int.tdiv t247 4)))))) else (none)) else (psalteryref19_Restore.j5 k4 l0 l2 a3 a4 x13_4 t247 x17_4 x18_4 x19_4 (wrap64 (t263 * t247)))) = some (r1, r2) := H
                                have A44 := Aside0.mk A440
                                clear A440
                                have HC45 := Aside0.mk H
                                clear H
                                have p248 : 0 ≤ (x19_4 : Int) := of_decide_eq_true (by first | (with_reducible assumption) | assumption)
                                have q248 : x19_4 < (l0.length : Int) := of_decide_eq_true (by first | (with_reducible assumption) | assumption)
                                obtain ⟨ad248, e248, hx248_0⟩ := Kd.at_int HR0.out x19_4 p248 q248
                                cases e248
                                replace hx248_0 := (HB.out.cell (World.block_lt_of_cell? w _ hx248_0)).trans hx248_0
                                replace p248 := eq_true p248
                                replace q248 := eq_true q248
                                have p262 : 0 ≤ (x19_4 : Int) := of_decide_eq_true (by first | (with_reducible assumption) | assumption)
                                have q262 : x19_4 < (l0.length : Int) := of_decide_eq_true (by first | (with_reducible assumption) | assumption)
                                obtain ⟨ad262, e262, hx262_0⟩ := Kd.at_int HR0.out x19_4 p262 q262
                                obtain rfl : ad248 = ad262 := (by injection e262)
                                replace hx262_0 := (HB.out.cell (World.block_lt_of_cell? w _ hx262_0)).trans hx262_0
                                replace p262 := eq_true p262
                                replace q262 := eq_true q262
                                go_upto_if 109 with (first | ((with_reducible refine gate_callee (f := 49) rfl ?_); refine goesL_ (some 103) rfl rfl Try.func49 (by kernel_rfl) rfl #[.int .i64 (rd l0 x19_4)] rfl (by (try simp only [List.map_toArray, List.map_cons, List.map_nil]); first | done | rfl | (simp only [List.length_drop, List.length_take]; rfl)) ?_; (with_reducible refine (psalteryref19_abs.calls (rd l0 x19_4) t263 _ A44.out).mono ?_); rintro e w' ⟨rfl, ⟨nd, rfl⟩⟩; refine ⟨_, rfl, ?_⟩))
                                (try simp only [Act.put, List.setIfInBounds_toArray, List.set_cons_zero, List.set_cons_succ])
                                go_cut [18, 21] (fun v18 v21 wc => ∃ (kq : Nat) (x18_44 : Int) (x21_44 : Int), v18 = .int .i64 x18_44 ∧ v21 = .int .i64 x21_44 ∧ Aside0 (psalteryref19_Restore.j5 kq l0 l2 a3 a4 x13_4 t247 x17_4 x18_44 x19_4 x21_44 = some (r1, r2)) ∧ Aside0 (kq ≤ k4) ∧ Aside0 (Kd.R (Kd.int .i32) 21 wc w.heap.size (fun _ => True) u17 x17_4) ∧ Aside0 (Below w.heap.size w wc))
                                case first =>
                                  have H := HC45.out
                                  clear HC45
                                  by_cases c46 : x18_4 < (l2.length : Int)
                                  · rw [if_pos c46] at H
                                    have c46b0 : decide (x18_4 < (l2.length : Int)) = true := decide_eq_true c46
                                    clear c46
                                    (first | rw [c46b0] | (simp only [i64_w, i32_w]; rw [c46b0]) | skip)
                                    by_cases c47 : 0 ≤ x18_4
                                    · rw [if_pos c47] at H
                                      have c47b0 : decide (0 ≤ x18_4) = true := decide_eq_true c47
                                      clear c47
                                      by_cases c48 : (rd l2 x18_4) = 1
                                      · rw [if_pos c48] at H
                                        have c48b0 : ((rd l2 x18_4) == 1) = true := beq_iff_eq.mpr c48
                                        have c48b1 : ((rd l2 x18_4) != 1) = false := bne_eq_false_iff_eq.mpr c48
                                        clear c48
                                        have H' := Aside0.mk H
                                        clear H
                                        have p264 : 0 ≤ (x18_4 : Int) := of_decide_eq_true (by first | (with_reducible assumption) | assumption)
                                        have q264 : x18_4 < (l2.length : Int) := of_decide_eq_true (by first | (with_reducible assumption) | assumption)
                                        obtain ⟨ad264, e264, hx264_0⟩ := Kd.at_int HR2.out x18_4 p264 q264
                                        cases e264
                                        replace hx264_0 := (HB.out.cell (World.block_lt_of_cell? w _ hx264_0)).trans hx264_0
                                        replace p264 := eq_true p264
                                        replace q264 := eq_true q264
                                        go_wp2
                                        go_meet
                                        case rel => exact ⟨_, (wrap64 (x18_4 + 1)), (wrap64 ((wrap64 (t263 * t247)) + (wrap64 (Int.tdiv t247 4)))), (by first | rfl | (simp; done) | (simp [*]; done)), (by first | rfl | (simp; done) | (simp [*]; done)), H', ⟨by have := HJ7.out; have := HK2.out; have := HK3.out; have := HK4.out; first | omega | exact Nat.le_refl _⟩, ⟨by (with_reducible repeat (first | apply Kd.R_alloc | apply Kd.R_drewN | apply Kd.R_drew)); exact HO_17.out⟩, ⟨by repeat (first | (with_reducible first | exact HB.out | apply below_alloc | apply pw_below_drewN | apply below_drew1) | exact HB.out)⟩⟩
                                      · rw [if_neg c48] at H
                                        have c48b0 : ((rd l2 x18_4) == 1) = false := beq_eq_false_iff_ne.mpr c48
                                        have c48b1 : ((rd l2 x18_4) != 1) = true := bne_iff_ne.mpr c48
                                        have H' := Aside0.mk H
                                        clear H
                                        have p264 : 0 ≤ (x18_4 : Int) := of_decide_eq_true (by first | (with_reducible assumption) | assumption)
                                        have q264 : x18_4 < (l2.length : Int) := of_decide_eq_true (by first | (with_reducible assumption) | assumption)
                                        obtain ⟨ad264, e264, hx264_0⟩ := Kd.at_int HR2.out x18_4 p264 q264
                                        cases e264
                                        replace hx264_0 := (HB.out.cell (World.block_lt_of_cell? w _ hx264_0)).trans hx264_0
                                        replace p264 := eq_true p264
                                        replace q264 := eq_true q264
                                        go_wp2
                                        go_meet
                                        case rel => exact ⟨_, (wrap64 (x18_4 + 1)), (wrap64 ((wrap64 (t263 * t247)) - (wrap64 (Int.tdiv t247 4)))), (by first | rfl | (simp; done) | (simp [*]; done)), (by first | rfl | (simp; done) | (simp [*]; done)), H', ⟨by have := HJ7.out; have := HK2.out; have := HK3.out; have := HK4.out; first | omega | exact Nat.le_refl _⟩, ⟨by (with_reducible repeat (first | apply Kd.R_alloc | apply Kd.R_drewN | apply Kd.R_drew)); exact HO_17.out⟩, ⟨by repeat (first | (with_reducible first | exact HB.out | apply below_alloc | apply pw_below_drewN | apply below_drew1) | exact HB.out)⟩⟩
                                    · rw [if_neg c47] at H
                                      exact absurd H (by simp)
                                  · rw [if_neg c46] at H
                                    have c46b0 : decide (x18_4 < (l2.length : Int)) = false := decide_eq_false c46
                                    clear c46
                                    (first | rw [c46b0] | (simp only [i64_w, i32_w]; rw [c46b0]) | skip)
                                    have H' := Aside0.mk H
                                    clear H
                                    go_wp2
                                    go_meet
                                    case rel => exact ⟨_, (x18_4), (wrap64 (t263 * t247)), (by first | rfl | (simp; done) | (simp [*]; done)), (by first | rfl | (simp; done) | (simp [*]; done)), H', ⟨by have := HJ7.out; have := HK2.out; have := HK3.out; have := HK4.out; first | omega | exact Nat.le_refl _⟩, ⟨by (with_reducible repeat (first | apply Kd.R_alloc | apply Kd.R_drewN | apply Kd.R_drew)); exact HO_17.out⟩, ⟨by repeat (first | (with_reducible first | exact HB.out | apply below_alloc | apply pw_below_drewN | apply below_drew1) | exact HB.out)⟩⟩
                                case rest =>
                                  clear HC45
                                  try clear c1
                                  try clear c2
                                  try clear p2
                                  try clear q2
                                  try clear hx2
                                  try clear c3
                                  try clear p3
                                  try clear c4
                                  try clear c5
                                  try clear c6
                                  try clear p6
                                  try clear c7
                                  try clear c7b0
                                  try clear c7b1
                                  try clear c11
                                  try clear c11b0
                                  try clear c12
                                  try clear c12b0
                                  try clear c13
                                  try clear c13b0
                                  try clear c14
                                  try clear c14b0
                                  try clear c15
                                  try clear c16
                                  try clear c16b0
                                  try clear c17
                                  try clear c17b0
                                  try clear c18
                                  try clear c18b0
                                  try clear c18b1
                                  try clear c19
                                  try clear c19b0
                                  try clear c19b1
                                  try clear c20
                                  try clear c20b0
                                  try clear c21
                                  try clear c21b0
                                  try clear p24
                                  try clear q24
                                  try clear hx24
                                  try clear c25
                                  try clear c25b0
                                  try clear c26
                                  try clear c26b0
                                  try clear p26
                                  try clear q26
                                  try clear hx26
                                  try clear c27
                                  try clear c27b0
                                  try clear c27b1
                                  try clear c29
                                  try clear c29b0
                                  try clear c30
                                  try clear c32
                                  try clear c32b0
                                  try clear p32
                                  try clear c34
                                  try clear c38
                                  try clear c42
                                  try clear c46
                                  try clear c46b0
                                  try clear c47
                                  try clear c47b0
                                  try clear c48
                                  try clear c48b0
                                  try clear c48b1
                                  try clear hx243_0
                                  try clear hx244_0
                                  try clear hx245_0
                                  try clear hx248_0
                                  try clear hx262_0
                                  try clear hx264_0
                                  try clear p2
                                  try clear p24
                                  try clear p243
                                  try clear p244
                                  try clear p245
                                  try clear p248
                                  try clear p262
                                  try clear p264
                                  try clear p6
                                  try clear q2
                                  try clear q24
                                  try clear q243
                                  try clear q244
                                  try clear q245
                                  try clear q248
                                  try clear q262
                                  try clear q264
                                  obtain ⟨kq, x18_44, x21_44, rfl, rfl, HA, HJ44, HO_17, HB⟩ := hcut
                                  cases kq with
                                  | zero => exact absurd HA.out (by simp [psalteryref19_Restore.j5])
                                  | succ kj44 =>
                                    have H := HA.out
                                    clear HA
                                    simp only [psalteryref19_Restore.j5] at H
                                    replace H := Option.bind_eq_some_iff.mp H
                                    obtain ⟨t265, A490, H⟩ := H
                                    replace H : (if 0 ≤ x19_4 then (if x19_4 < (l0.length : Int) then (if (rd l0 x19_4) < 0 then ((psalteryref01_Sat.f (wrap64 (-t265)) 32).bind fun t267 => (if x17_4.length < 35184372088832 then (psalteryref19_Restore.l2 kj44 l0 l2 a3 a4 x13_4 t247 (x17_4 ++ [wrap32 (t267)]) x18_44 (wrap64 (x19_4 + 1))) else (none))) else ((psalteryref01_Sat.f t265 32).bind fun t271 => (if x17_4.length < 35184372088832 then (psalteryref19_Restore.l2 kj44 l0 l2 a3 a4 x13_4 t247 (x17_4 ++ [wrap32 (t271)]) x18_44 (wrap64 (x19_4 + 1))) else (none)))) else (none)) else (none)) = some (r1, r2) := H
                                    have A49 := Aside0.mk A490
                                    clear A490
                                    by_cases c50 : 0 ≤ x19_4
                                    · rw [if_pos c50] at H
                                      have c50b0 : decide (0 ≤ x19_4) = true := decide_eq_true c50
                                      clear c50
                                      by_cases c51 : x19_4 < (l0.length : Int)
                                      · rw [if_pos c51] at H
                                        have c51b0 : decide (x19_4 < (l0.length : Int)) = true := decide_eq_true c51
                                        clear c51
                                        by_cases c52 : (rd l0 x19_4) < 0
                                        · rw [if_pos c52] at H
                                          have c52b0 : decide ((rd l0 x19_4) < 0) = true := decide_eq_true c52
                                          clear c52
                                          replace H := Option.bind_eq_some_iff.mp H
                                          obtain ⟨t267, A530, H⟩ := H
                                          replace H : (if x17_4.length < 35184372088832 then (psalteryref19_Restore.l2 kj44 l0 l2 a3 a4 x13_4 t247 (x17_4 ++ [wrap32 (t267)]) x18_44 (wrap64 (x19_4 + 1))) else (none)) = some (r1, r2) := H
                                          have A53 := Aside0.mk A530
                                          clear A530
                                          by_cases c54 : x17_4.length < 35184372088832
                                          · rw [if_pos c54] at H
                                            have LMc54 := Aside0.mk c54
                                            clear c54
                                            obtain ⟨y268, hy268⟩ : ∃ y_ : List Int, y_ = (x17_4 ++ [wrap32 (t267)]) := ⟨_, rfl⟩
                                            replace H : (psalteryref19_Restore.l2 kj44 l0 l2 a3 a4 x13_4 t247 y268 x18_44 (wrap64 (x19_4 + 1))) = some (r1, r2) := by first | (rw [hy268]; with_reducible exact H) | (have H2_ := (Option.bind_some _ _).symm.trans H; rw [hy268]; with_reducible exact H2_) | (have H2_ := (Option.bind_some _ _).symm.trans H; with_reducible exact H2_) | with_reducible exact H | (rw [hy268]; exact H) | exact H
                                            have Ny268 := Aside0.mk hy268
                                            clear hy268
                                            have H' := Aside0.mk H
                                            clear H
                                            go_wp2_with (first | ((with_reducible refine gate_callee (f := 53) rfl ?_); refine goesL_ (some 126) rfl rfl Try.func53 (by kernel_rfl) rfl #[.int .i64 x21_44, .int .i64 16] rfl (by (try simp only [List.map_toArray, List.map_cons, List.map_nil]); first | done | rfl | (simp only [List.length_drop, List.length_take]; rfl)) ?_; (with_reducible refine (psalteryref01_Round.calls x21_44 16 t265 _ A49.out).mono ?_); rintro e w55 ⟨rfl, hb⟩; refine ⟨_, rfl, ?_⟩; have n0_ := Aside0.mk (Kd.R_below (by (with_reducible repeat (first | apply Kd.R_alloc | apply Kd.R_drewN | apply Kd.R_drew)); exact HO_17.out) hb); have n1_ := Aside0.mk (below_step (by repeat (first | (with_reducible first | exact HB.out | apply below_alloc | apply pw_below_drewN | apply below_drew1) | exact HB.out)) hb); clear HO_17; clear HB; have HO_17 := n0_; have HB := n1_; clear n0_ n1_; (try clear hb); (try clear hb2); (try clear hk); (try clear hi); have p266 : 0 ≤ (x19_4 : Int) := of_decide_eq_true (by first | (with_reducible assumption) | assumption); have q266 : x19_4 < (l0.length : Int) := of_decide_eq_true (by first | (with_reducible assumption) | assumption); obtain ⟨ad266, e266, hx266_0⟩ := Kd.at_int HR0.out x19_4 p266 q266; obtain rfl : ad248 = ad266 := (by injection e266); replace hx266_0 := (HB.out.cell (World.block_lt_of_cell? w _ hx266_0)).trans hx266_0; replace p266 := eq_true p266; replace q266 := eq_true q266) | ((with_reducible refine gate_callee (f := 61) rfl ?_); refine goesL_ (some 156) rfl rfl Try.func61 (by kernel_rfl) rfl #[.int .i64 (wrap64 (-t265)), .int .i64 32] rfl (by (try simp only [List.map_toArray, List.map_cons, List.map_nil]); first | done | rfl | (simp only [List.length_drop, List.length_take]; rfl)) ?_; (with_reducible refine (psalteryref01_Sat.calls (wrap64 (-t265)) 32 t267 _ A53.out).mono ?_); rintro e w' ⟨rfl, ⟨nd, rfl⟩⟩; refine ⟨_, rfl, ?_⟩) | ((with_reducible refine gate_builtin (b := .append) (xs := #[.tmp 154, .tmp 158]) rfl ?_); (try (refine gate_guard (by rfl) ?_; dsimp only)); at_builtin; refine Kd.R_append (Kd.int .i32) (w0 := w) w.heap.size rfl (.tmp 154) (.tmp 158) 22 21 (.int .i32 0) 4 rfl Try.underlying22 info21 rfl (by decide) (by omega) u17 x17_4 (wrap32 (t267)) [.int .i32 (wrap32 (t267))] (fun _ => True) (fun _ => False) rfl rfl ?aP (fun _ hk => hk.elim) ?aF ?aO ?aB ?aS ?aL ?_; (case aP => exact rfl); (case aB => exact (by repeat (first | (with_reducible first | exact HB.out | apply below_alloc | apply pw_below_drewN | apply below_drew1) | exact HB.out))); (case aF => exact (fun _ _ => trivial)); (case aO => exact (by (with_reducible repeat (first | apply Kd.R_alloc | apply Kd.R_drewN | apply Kd.R_drew)); exact HO_17.out)); (case aS => exact (below_size (by repeat (first | (with_reducible first | exact HB.out | apply below_alloc | apply pw_below_drewN | apply below_drew1) | exact HB.out)))); (case aL => have := LMc54.out; omega); intro v269 w56 ho hb hg hat; rw [← Ny268.out] at ho; have n0_ := Aside0.mk (hb); have n1_ := Aside0.mk (ho); clear HB; clear HO_17; have HB := n0_; have HO270 := n1_; clear n0_ n1_; clear ho hb hg hat))
                                            go_roundg kj44
                                            case measure => have := HJ7.out; have := HK2.out; have := HK3.out; have := HK4.out; have := HJ44.out; omega
                                            case rel => exact ⟨(x13_4), (y268), (x18_44), (wrap64 (x19_4 + 1)), (by first | rfl | (simp; done) | (simp [*]; done)), (by first | rfl | (simp; done) | (simp [*]; done)), (by first | rfl | (simp; done) | (simp [*]; done)), H', ⟨by have := HJ7.out; have := HK2.out; have := HK3.out; have := HK4.out; have := HJ44.out; omega⟩, ⟨by (with_reducible repeat (first | apply Kd.R_alloc | apply Kd.R_drewN | apply Kd.R_drew)); exact HO270.out⟩, ⟨by repeat (first | (with_reducible first | exact HB.out | apply below_alloc | apply pw_below_drewN | apply below_drew1) | exact HB.out)⟩⟩
                                          · rw [if_neg c54] at H
                                            exact absurd H (by simp)
                                        · rw [if_neg c52] at H
                                          have c52b0 : decide ((rd l0 x19_4) < 0) = false := decide_eq_false c52
                                          clear c52
                                          replace H := Option.bind_eq_some_iff.mp H
                                          obtain ⟨t271, A570, H⟩ := H
                                          replace H : (if x17_4.length < 35184372088832 then (psalteryref19_Restore.l2 kj44 l0 l2 a3 a4 x13_4 t247 (x17_4 ++ [wrap32 (t271)]) x18_44 (wrap64 (x19_4 + 1))) else (none)) = some (r1, r2) := H
                                          have A57 := Aside0.mk A570
                                          clear A570
                                          by_cases c58 : x17_4.length < 35184372088832
                                          · rw [if_pos c58] at H
                                            have LMc58 := Aside0.mk c58
                                            clear c58
                                            obtain ⟨y272, hy272⟩ : ∃ y_ : List Int, y_ = (x17_4 ++ [wrap32 (t271)]) := ⟨_, rfl⟩
                                            replace H : (psalteryref19_Restore.l2 kj44 l0 l2 a3 a4 x13_4 t247 y272 x18_44 (wrap64 (x19_4 + 1))) = some (r1, r2) := by first | (rw [hy272]; with_reducible exact H) | (have H2_ := (Option.bind_some _ _).symm.trans H; rw [hy272]; with_reducible exact H2_) | (have H2_ := (Option.bind_some _ _).symm.trans H; with_reducible exact H2_) | with_reducible exact H | (rw [hy272]; exact H) | exact H
                                            have Ny272 := Aside0.mk hy272
                                            clear hy272
                                            have H' := Aside0.mk H
                                            clear H
                                            go_wp2_with (first | ((with_reducible refine gate_callee (f := 53) rfl ?_); refine goesL_ (some 126) rfl rfl Try.func53 (by kernel_rfl) rfl #[.int .i64 x21_44, .int .i64 16] rfl (by (try simp only [List.map_toArray, List.map_cons, List.map_nil]); first | done | rfl | (simp only [List.length_drop, List.length_take]; rfl)) ?_; (with_reducible refine (psalteryref01_Round.calls x21_44 16 t265 _ A49.out).mono ?_); rintro e w59 ⟨rfl, hb⟩; refine ⟨_, rfl, ?_⟩; have n0_ := Aside0.mk (Kd.R_below (by (with_reducible repeat (first | apply Kd.R_alloc | apply Kd.R_drewN | apply Kd.R_drew)); exact HO_17.out) hb); have n1_ := Aside0.mk (below_step (by repeat (first | (with_reducible first | exact HB.out | apply below_alloc | apply pw_below_drewN | apply below_drew1) | exact HB.out)) hb); clear HO_17; clear HB; have HO_17 := n0_; have HB := n1_; clear n0_ n1_; (try clear hb); (try clear hb2); (try clear hk); (try clear hi); have p266 : 0 ≤ (x19_4 : Int) := of_decide_eq_true (by first | (with_reducible assumption) | assumption); have q266 : x19_4 < (l0.length : Int) := of_decide_eq_true (by first | (with_reducible assumption) | assumption); obtain ⟨ad266, e266, hx266_0⟩ := Kd.at_int HR0.out x19_4 p266 q266; obtain rfl : ad248 = ad266 := (by injection e266); replace hx266_0 := (HB.out.cell (World.block_lt_of_cell? w _ hx266_0)).trans hx266_0; replace p266 := eq_true p266; replace q266 := eq_true q266) | ((with_reducible refine gate_callee (f := 61) rfl ?_); refine goesL_ (some 156) rfl rfl Try.func61 (by kernel_rfl) rfl #[.int .i64 t265, .int .i64 32] rfl (by (try simp only [List.map_toArray, List.map_cons, List.map_nil]); first | done | rfl | (simp only [List.length_drop, List.length_take]; rfl)) ?_; (with_reducible refine (psalteryref01_Sat.calls t265 32 t271 _ A57.out).mono ?_); rintro e w' ⟨rfl, ⟨nd, rfl⟩⟩; refine ⟨_, rfl, ?_⟩) | ((with_reducible refine gate_builtin (b := .append) (xs := #[.tmp 154, .tmp 158]) rfl ?_); (try (refine gate_guard (by rfl) ?_; dsimp only)); at_builtin; refine Kd.R_append (Kd.int .i32) (w0 := w) w.heap.size rfl (.tmp 154) (.tmp 158) 22 21 (.int .i32 0) 4 rfl Try.underlying22 info21 rfl (by decide) (by omega) u17 x17_4 (wrap32 (t271)) [.int .i32 (wrap32 (t271))] (fun _ => True) (fun _ => False) rfl rfl ?aP (fun _ hk => hk.elim) ?aF ?aO ?aB ?aS ?aL ?_; (case aP => exact rfl); (case aB => exact (by repeat (first | (with_reducible first | exact HB.out | apply below_alloc | apply pw_below_drewN | apply below_drew1) | exact HB.out))); (case aF => exact (fun _ _ => trivial)); (case aO => exact (by (with_reducible repeat (first | apply Kd.R_alloc | apply Kd.R_drewN | apply Kd.R_drew)); exact HO_17.out)); (case aS => exact (below_size (by repeat (first | (with_reducible first | exact HB.out | apply below_alloc | apply pw_below_drewN | apply below_drew1) | exact HB.out)))); (case aL => have := LMc58.out; omega); intro v273 w60 ho hb hg hat; rw [← Ny272.out] at ho; have n0_ := Aside0.mk (hb); have n1_ := Aside0.mk (ho); clear HB; clear HO_17; have HB := n0_; have HO274 := n1_; clear n0_ n1_; clear ho hb hg hat))
                                            go_roundg kj44
                                            case measure => have := HJ7.out; have := HK2.out; have := HK3.out; have := HK4.out; have := HJ44.out; omega
                                            case rel => exact ⟨(x13_4), (y272), (x18_44), (wrap64 (x19_4 + 1)), (by first | rfl | (simp; done) | (simp [*]; done)), (by first | rfl | (simp; done) | (simp [*]; done)), (by first | rfl | (simp; done) | (simp [*]; done)), H', ⟨by have := HJ7.out; have := HK2.out; have := HK3.out; have := HK4.out; have := HJ44.out; omega⟩, ⟨by (with_reducible repeat (first | apply Kd.R_alloc | apply Kd.R_drewN | apply Kd.R_drew)); exact HO274.out⟩, ⟨by repeat (first | (with_reducible first | exact HB.out | apply below_alloc | apply pw_below_drewN | apply below_drew1) | exact HB.out)⟩⟩
                                          · rw [if_neg c58] at H
                                            exact absurd H (by simp)
                                      · rw [if_neg c51] at H
                                        exact absurd H (by simp)
                                    · rw [if_neg c50] at H
                                      exact absurd H (by simp)
                            · rw [if_neg c26] at H
                              exact absurd H (by simp)
                          · rw [if_neg c25] at H
                            have c25b0 : decide (x19_4 < (l0.length : Int)) = false := decide_eq_false c25
                            clear c25
                            simp only [Option.some.injEq, Prod.mk.injEq] at H
                            obtain ⟨rfl, rfl⟩ := H
                            go_wp2
                            go_ret2
                            exact ⟨_, by first | rfl | (simp [errW_none, errW_some] <;> rfl) | (simp [*, errW_none, errW_some] <;> rfl), by (with_reducible repeat (first | apply Kd.R_alloc | apply Kd.R_drewN | apply Kd.R_drew)); exact HO_17.out, by repeat (first | (with_reducible first | exact HB.out | apply below_alloc | apply pw_below_drewN | apply below_drew1) | exact HB.out)⟩
  · rw [if_neg c7] at H
    have c7b0 : (t241 == 0) = false := beq_eq_false_iff_ne.mpr c7
    have c7b1 : (t241 != 0) = true := bne_iff_ne.mpr c7
    simp only [Option.some.injEq, Prod.mk.injEq] at H
    obtain ⟨rfl, rfl⟩ := H
    go_enter Try.func44, Try.ntmps44
    go_wp2_with (first | ((with_reducible refine gate_callee (f := 68) rfl ?_); refine goesL_ (some 26) rfl rfl Try.func68 (by kernel_rfl) rfl #[.int .i64 (l0.length : Int), .slice A0 l0.length c0, .int .i64 a1] rfl (by (try simp only [List.map_toArray, List.map_cons, List.map_nil]); first | done | rfl | (simp only [List.length_drop, List.length_take]; rfl)) ?_; (with_reducible refine (psalteryref19_May.calls k (l0.length : Int) _ _ l0 a1 t241 _ ?side1 ?side2 A6.out).mono ?_); (case side1 => repeat (first | exact HR0.out | (with_reducible refine Kd.C_alloc ?_ _) | (with_reducible refine Kd.C_drewN ?_ _) | (with_reducible refine Kd.C_drew ?_))); (case side2 => exact HC0.out); rintro e w61 ⟨rfl, hb⟩; refine ⟨_, rfl, ?_⟩; have n0_ := Aside0.mk (below_step (by repeat (first | (with_reducible first | exact HB.out | apply below_alloc | apply pw_below_drewN | apply below_drew1) | exact HB.out)) hb); clear HB; have HB := n0_; clear n0_; (try clear hb); (try clear hb2); (try clear hk); (try clear hi)))
    go_ret2
    exact ⟨_, by first | rfl | (simp [errW_none, errW_some] <;> rfl) | (simp [*, errW_none, errW_some] <;> rfl), by first | exact Kd.R_nil _ _ _ _ _ | exact Kd.N_nil _ _ _ _ _ | exact Kd.V_nil _ _ _ _ _ | exact Kd.Q_nil _ _ _ _ _ | exact Kd.S_nil _ _ _ _ _, by repeat (first | (with_reducible first | exact HB.out | apply below_alloc | apply pw_below_drewN | apply below_drew1) | exact HB.out)⟩

end Go.Proofs.Ytfipchhpnnjkeaa.PGain
