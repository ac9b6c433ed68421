/- Contracts of the functions that the law Gain reaches: each Go function as a Lean function, and that the Go text comes to it. Written by programs (wip/tools), out of the program's own loaded form. -/
import Derived.Test.YtfipchhpnnjkeaaPGainx0
import Derived.Test.YtfipchhpnnjkeaaPGainx1
import Derived.Test.YtfipchhpnnjkeaaPGainx5
namespace Go.Proofs.Ytfipchhpnnjkeaa.PGain
open Go.RowKit Go.Proofs.YtfipchhpnnjkeaaW.PrintWords Go.Proofs.YtfipchhpnnjkeaaW.PrintLast Go.Proofs.YtfipchhpnnjkeaaW.PrintMore
attribute [local go_sem] max2_int min2_int max_two min_two max_three min_three max_four min_four   -- for this text's walks alone
set_option linter.unusedVariables false
set_option linter.unusedSimpArgs false

/-! ### gain_Restore: function 43 -/
mutual
def gain_Restore.j0 : Nat → List Int → List Int → Int → Int → Int → Int → Bool → Option (List Int × Int)
  | 0, _, _, _, _, _, _, _ => none
  | k + 1, x0, x2, x3, x4, x12, x13, x38 => if x38 = true then (gain_Restore.j1 k x0 x2 x3 x4 x12 1) else (gain_Restore.j1 k x0 x2 x3 x4 x12 x13)
def gain_Restore.j1 : Nat → List Int → List Int → Int → Int → Int → Int → Option (List Int × Int)
  | 0, _, _, _, _, _, _ => none
  | k + 1, x0, x2, x3, x4, x12, x13 => if x13 = 0 then (gain_Restore.l0 k x0 x2 x3 x4 x12 x0 (x0.length : Int) 0 0) else (some (([] : List Int), x13))
def gain_Restore.l0 : Nat → List Int → List Int → Int → Int → Int → List Int → Int → Int → Int → Option (List Int × Int)
  | 0, _, _, _, _, _, _, _, _, _ => none
  | k + 1, x0, x2, x3, x4, x12, x42, x43, x44, x209000 => if x44 < x43 then (if 0 ≤ x44 then (if x44 < (x42.length : Int) then ((gain_size_int.f (rd x42 x44)).bind fun t210 => (gain_Restore.l0 k x0 x2 x3 x4 x12 x42 x43 (wrap64 (x44 + 1)) (IntKind.u16.wrap (x209000 + (IntKind.u16.wrap (t210)))))) else (none)) else (none)) else (if 0 ≤ (x0.length : Int) then (if ((x0.length : Int) : Int).toNat ≤ 70368744177664 then (gain_Restore.l1 k x2 x3 x4 x12 (List.replicate ((x0.length : Int) : Int).toNat 0) x0 (x0.length : Int) 0 x209000) else (none)) else (none))
def gain_Restore.l1 : Nat → List Int → Int → Int → Int → List Int → List Int → Int → Int → Int → Option (List Int × Int)
  | 0, _, _, _, _, _, _, _, _, _ => none
  | k + 1, x2, x3, x4, x12, x17, x59, x60, x61, x209000 => if x61 < x60 then (if 0 ≤ x61 then (if x61 < (x59.length : Int) then ((gain_size_int.f (rd x59 x61)).bind fun t215 => (if (rd x59 x61) = 0 then (if x3 > 0 then (gain_Restore.j4 k x2 x3 x4 x12 x17 x61 x59 x60 x61 (decide (x61 < x4)) x209000) else (gain_Restore.j4 k x2 x3 x4 x12 x17 x61 x59 x60 x61 false x209000)) else (if (x2.length : Int) > 0 then (if 0 < (x2.length : Int) then (if 1 ≤ (x2.length : Int) then ((fix_Round.f (wrap64 ((wrap64 (t215 * x12)) + (wrap64 ((wrap64 ((wrap64 (2 * (rd x2 0))) - 1)) * (wrap64 (Int.tdiv x12 4)))))) 16).bind fun t229 => ((gain_signed_int.f t229 (rd x59 x61)).bind fun t230 => ((fix_Sat32.f t230).bind fun t231 => (if x61 < (x17.length : Int) then (gain_Restore.l1 k (x2.drop 1) x3 x4 x12 (x17.set (x61 : Int).toNat t231) x59 x60 (wrap64 (x61 + 1)) x209000) else (none))))) else (none)) else (none)) else ((fix_Round.f (wrap64 (t215 * x12)) 16).bind fun t233 => ((gain_signed_int.f t233 (rd x59 x61)).bind fun t234 => ((fix_Sat32.f t234).bind fun t235 => (if x61 < (x17.length : Int) then (gain_Restore.l1 k x2 x3 x4 x12 (x17.set (x61 : Int).toNat t235) x59 x60 (wrap64 (x61 + 1)) x209000) else (none)))))))) else (none)) else (none)) else (some (x17, 0))
def gain_Restore.j4 : Nat → List Int → Int → Int → Int → List Int → Int → List Int → Int → Int → Bool → Int → Option (List Int × Int)
  | 0, _, _, _, _, _, _, _, _, _, _, _ => none
  | k + 1, x2, x3, x4, x12, x17, x18, x59, x60, x61, x96, x209000 => if x96 = true then ((fix_Round.f (wrap64 (Int.tdiv (wrap64 (x3 * x12)) 16)) 16).bind fun t216 => ((gain_dice_throw.f x209000).bind fun bt217 => (if bt217.1 = true then ((fix_Sat32.f (wrap64 (-t216))).bind fun t219 => (if 0 ≤ x18 then (if x18 < (x17.length : Int) then (gain_Restore.l1 k x2 x3 x4 x12 (x17.set (x18 : Int).toNat t219) x59 x60 (wrap64 (x61 + 1)) bt217.2) else (none)) else (none))) else ((fix_Sat32.f t216).bind fun t221 => (if 0 ≤ x18 then (if x18 < (x17.length : Int) then (gain_Restore.l1 k x2 x3 x4 x12 (x17.set (x18 : Int).toNat t221) x59 x60 (wrap64 (x61 + 1)) bt217.2) else (none)) else (none)))))) else (gain_Restore.l1 k x2 x3 x4 x12 x17 x59 x60 (wrap64 (x61 + 1)) x209000)
end
def gain_Restore.f (k : Nat) (l0 : List Int) (a1 : Int) (l2 : List Int) (a3 : Int) (a4 : Int) : Option (List Int × Int) := (gain_may.f k (l0.length : Int) l0 a1).bind fun bt205 => (if bt205.2 = 0 then ((gain_restorable.f k l0 l2 a3 a4).bind fun t207 => (gain_Restore.j0 k l0 l2 a3 a4 bt205.1 bt205.2 (!t207))) else (gain_Restore.j0 k l0 l2 a3 a4 bt205.1 bt205.2 false))
theorem gain_Restore.mono_l : ∀ k, (∀ y0 y1 y2 y3 y4 y5 y6, LeO (gain_Restore.j0 k y0 y1 y2 y3 y4 y5 y6) (gain_Restore.j0 (k + 1) y0 y1 y2 y3 y4 y5 y6)) ∧ (∀ y0 y1 y2 y3 y4 y5, LeO (gain_Restore.j1 k y0 y1 y2 y3 y4 y5) (gain_Restore.j1 (k + 1) y0 y1 y2 y3 y4 y5)) ∧ (∀ y0 y1 y2 y3 y4 y5 y6 y7 y8, LeO (gain_Restore.l0 k y0 y1 y2 y3 y4 y5 y6 y7 y8) (gain_Restore.l0 (k + 1) y0 y1 y2 y3 y4 y5 y6 y7 y8)) ∧ (∀ y0 y1 y2 y3 y4 y5 y6 y7 y8, LeO (gain_Restore.l1 k y0 y1 y2 y3 y4 y5 y6 y7 y8) (gain_Restore.l1 (k + 1) y0 y1 y2 y3 y4 y5 y6 y7 y8)) ∧ (∀ y0 y1 y2 y3 y4 y5 y6 y7 y8 y9 y10, LeO (gain_Restore.j4 k y0 y1 y2 y3 y4 y5 y6 y7 y8 y9 y10) (gain_Restore.j4 (k + 1) y0 y1 y2 y3 y4 y5 y6 y7 y8 y9 y10))
  | 0 => ⟨fun _ _ _ _ _ _ _ r h => by simp [gain_Restore.j0] at h, fun _ _ _ _ _ _ r h => by simp [gain_Restore.j1] at h, fun _ _ _ _ _ _ _ _ _ r h => by simp [gain_Restore.l0] at h, fun _ _ _ _ _ _ _ _ _ r h => by simp [gain_Restore.l1] at h, fun _ _ _ _ _ _ _ _ _ _ _ r h => by simp [gain_Restore.j4] at h⟩
  | k + 1 => by
    obtain ⟨ih0, ih1, ih2, ih3, ih4⟩ := gain_Restore.mono_l k
    refine ⟨?_, ?_, ?_, ?_, ?_⟩
    · intro y0 y1 y2 y3 y4 y5 y6
      unfold gain_Restore.j0
      repeat' first
      | (with_reducible exact ih0 _ _ _ _ _ _ _)
      | (with_reducible exact ih1 _ _ _ _ _ _)
      | (with_reducible exact ih2 _ _ _ _ _ _ _ _ _)
      | (with_reducible exact ih3 _ _ _ _ _ _ _ _ _)
      | (with_reducible exact ih4 _ _ _ _ _ _ _ _ _ _ _)
      | (with_reducible exact gain_may.mono _ _ _ _)
      | (with_reducible exact gain_restorable.mono _ _ _ _ _)
      | (with_reducible exact LeO.refl _)
      | (with_reducible exact LeO.none _)
      | (with_reducible refine LeO.ite ?_ ?_)
      | (with_reducible refine LeO.bind ?_ (fun _ => ?_))
      | exact ih0 _ _ _ _ _ _ _
      | exact ih1 _ _ _ _ _ _
      | exact ih2 _ _ _ _ _ _ _ _ _
      | exact ih3 _ _ _ _ _ _ _ _ _
      | exact ih4 _ _ _ _ _ _ _ _ _ _ _
      | exact gain_may.mono _ _ _ _
      | exact gain_restorable.mono _ _ _ _ _
      | exact LeO.none _
      | refine LeO.ite ?_ ?_
      | refine LeO.bind ?_ (fun _ => ?_)
    · intro y0 y1 y2 y3 y4 y5
      unfold gain_Restore.j1
      repeat' first
      | (with_reducible exact ih0 _ _ _ _ _ _ _)
      | (with_reducible exact ih1 _ _ _ _ _ _)
      | (with_reducible exact ih2 _ _ _ _ _ _ _ _ _)
      | (with_reducible exact ih3 _ _ _ _ _ _ _ _ _)
      | (with_reducible exact ih4 _ _ _ _ _ _ _ _ _ _ _)
      | (with_reducible exact gain_may.mono _ _ _ _)
      | (with_reducible exact gain_restorable.mono _ _ _ _ _)
      | (with_reducible exact LeO.refl _)
      | (with_reducible exact LeO.none _)
      | (with_reducible refine LeO.ite ?_ ?_)
      | (with_reducible refine LeO.bind ?_ (fun _ => ?_))
      | exact ih0 _ _ _ _ _ _ _
      | exact ih1 _ _ _ _ _ _
      | exact ih2 _ _ _ _ _ _ _ _ _
      | exact ih3 _ _ _ _ _ _ _ _ _
      | exact ih4 _ _ _ _ _ _ _ _ _ _ _
      | exact gain_may.mono _ _ _ _
      | exact gain_restorable.mono _ _ _ _ _
      | exact LeO.none _
      | refine LeO.ite ?_ ?_
      | refine LeO.bind ?_ (fun _ => ?_)
    · intro y0 y1 y2 y3 y4 y5 y6 y7 y8
      unfold gain_Restore.l0
      repeat' first
      | (with_reducible exact ih0 _ _ _ _ _ _ _)
      | (with_reducible exact ih1 _ _ _ _ _ _)
      | (with_reducible exact ih2 _ _ _ _ _ _ _ _ _)
      | (with_reducible exact ih3 _ _ _ _ _ _ _ _ _)
      | (with_reducible exact ih4 _ _ _ _ _ _ _ _ _ _ _)
      | (with_reducible exact gain_may.mono _ _ _ _)
      | (with_reducible exact gain_restorable.mono _ _ _ _ _)
      | (with_reducible exact LeO.refl _)
      | (with_reducible exact LeO.none _)
      | (with_reducible refine LeO.ite ?_ ?_)
      | (with_reducible refine LeO.bind ?_ (fun _ => ?_))
      | exact ih0 _ _ _ _ _ _ _
      | exact ih1 _ _ _ _ _ _
      | exact ih2 _ _ _ _ _ _ _ _ _
      | exact ih3 _ _ _ _ _ _ _ _ _
      | exact ih4 _ _ _ _ _ _ _ _ _ _ _
      | exact gain_may.mono _ _ _ _
      | exact gain_restorable.mono _ _ _ _ _
      | exact LeO.none _
      | refine LeO.ite ?_ ?_
      | refine LeO.bind ?_ (fun _ => ?_)
    · intro y0 y1 y2 y3 y4 y5 y6 y7 y8
      unfold gain_Restore.l1
      repeat' first
      | (with_reducible exact ih0 _ _ _ _ _ _ _)
      | (with_reducible exact ih1 _ _ _ _ _ _)
      | (with_reducible exact ih2 _ _ _ _ _ _ _ _ _)
      | (with_reducible exact ih3 _ _ _ _ _ _ _ _ _)
      | (with_reducible exact ih4 _ _ _ _ _ _ _ _ _ _ _)
      | (with_reducible exact gain_may.mono _ _ _ _)
      | (with_reducible exact gain_restorable.mono _ _ _ _ _)
      | (with_reducible exact LeO.refl _)
      | (with_reducible exact LeO.none _)
      | (with_reducible refine LeO.ite ?_ ?_)
      | (with_reducible refine LeO.bind ?_ (fun _ => ?_))
      | exact ih0 _ _ _ _ _ _ _
      | exact ih1 _ _ _ _ _ _
      | exact ih2 _ _ _ _ _ _ _ _ _
      | exact ih3 _ _ _ _ _ _ _ _ _
      | exact ih4 _ _ _ _ _ _ _ _ _ _ _
      | exact gain_may.mono _ _ _ _
      | exact gain_restorable.mono _ _ _ _ _
      | exact LeO.none _
      | refine LeO.ite ?_ ?_
      | refine LeO.bind ?_ (fun _ => ?_)
    · intro y0 y1 y2 y3 y4 y5 y6 y7 y8 y9 y10
      unfold gain_Restore.j4
      repeat' first
      | (with_reducible exact ih0 _ _ _ _ _ _ _)
      | (with_reducible exact ih1 _ _ _ _ _ _)
      | (with_reducible exact ih2 _ _ _ _ _ _ _ _ _)
      | (with_reducible exact ih3 _ _ _ _ _ _ _ _ _)
      | (with_reducible exact ih4 _ _ _ _ _ _ _ _ _ _ _)
      | (with_reducible exact gain_may.mono _ _ _ _)
      | (with_reducible exact gain_restorable.mono _ _ _ _ _)
      | (with_reducible exact LeO.refl _)
      | (with_reducible exact LeO.none _)
      | (with_reducible refine LeO.ite ?_ ?_)
      | (with_reducible refine LeO.bind ?_ (fun _ => ?_))
      | exact ih0 _ _ _ _ _ _ _
      | exact ih1 _ _ _ _ _ _
      | exact ih2 _ _ _ _ _ _ _ _ _
      | exact ih3 _ _ _ _ _ _ _ _ _
      | exact ih4 _ _ _ _ _ _ _ _ _ _ _
      | exact gain_may.mono _ _ _ _
      | exact gain_restorable.mono _ _ _ _ _
      | exact LeO.none _
      | refine LeO.ite ?_ ?_
      | refine LeO.bind ?_ (fun _ => ?_)
theorem gain_Restore.mono : ∀ a0 a1 a2 a3 a4 k, LeO (gain_Restore.f k a0 a1 a2 a3 a4) (gain_Restore.f (k + 1) a0 a1 a2 a3 a4) := by
  intro a0 a1 a2 a3 a4 k
  obtain ⟨ih0, ih1, ih2, ih3, ih4⟩ := gain_Restore.mono_l k
  unfold gain_Restore.f
  repeat' first
      | (with_reducible exact ih0 _ _ _ _ _ _ _)
      | (with_reducible exact ih1 _ _ _ _ _ _)
      | (with_reducible exact ih2 _ _ _ _ _ _ _ _ _)
      | (with_reducible exact ih3 _ _ _ _ _ _ _ _ _)
      | (with_reducible exact ih4 _ _ _ _ _ _ _ _ _ _ _)
      | (with_reducible exact gain_may.mono _ _ _ _)
      | (with_reducible exact gain_restorable.mono _ _ _ _ _)
      | (with_reducible exact LeO.refl _)
      | (with_reducible exact LeO.none _)
      | (with_reducible refine LeO.ite ?_ ?_)
      | (with_reducible refine LeO.bind ?_ (fun _ => ?_))
      | exact ih0 _ _ _ _ _ _ _
      | exact ih1 _ _ _ _ _ _
      | exact ih2 _ _ _ _ _ _ _ _ _
      | exact ih3 _ _ _ _ _ _ _ _ _
      | exact ih4 _ _ _ _ _ _ _ _ _ _ _
      | exact gain_may.mono _ _ _ _
      | exact gain_restorable.mono _ _ _ _ _
      | exact LeO.none _
      | refine LeO.ite ?_ ?_
      | refine LeO.bind ?_ (fun _ => ?_)
def gain_Restore.T10 : Bool × List (List Nat × List Nat) := (true, [([], []), ([0], [0]), ([], []), ([2], [2]), ([3], [3]), ([1, 4], [1, 4]), ([0, 1, 2, 3, 4, 5], []), ([6, 5, 3, 0, 1, 2, 3, 4, 5], [5, 6])])
def gain_Restore.B10 : List Nat := [0, 1, 0, 4, 12, 31, 63, 127]
theorem gain_Restore.tab10 : rtab .any (opsOf Try.f43 10) = gain_Restore.T10 := by kernel_rfl
theorem gain_Restore.bits10 : waitsOk gain_Restore.T10.2 gain_Restore.B10 = true := by kernel_rfl
set_option maxHeartbeats 8000000 in
set_option maxRecDepth 100000 in
theorem gain_Restore.calls (k : Nat) (A0 : Option Addr) (c0 : Nat) (l0 : List Int) (a1 : Int) (P2_ : Nat → Prop) (A2 : Option Addr) (c2 : Nat) (l2 : List Int) (a3 : Int) (a4 : Int) (r1 : List Int) (r2 : Int) (w : World) (hr0 : Kd.C (Kd.int .i64) w A0 l0.length l0) (hc0 : l0.length ≤ c0) (hs2 : Kd.V (Kd.int .i64) 3 w w.heap.size (fun k_ => P2_ k_) (.slice A2 l2.length c2) l2) (h : gain_Restore.f k l0 a1 l2 a3 a4 = some (r1, r2)) :
    Calls Try.prog 43 #[.slice A0 l0.length c0, .int .i64 a1, .slice A2 l2.length c2, .int .i64 a3, .int .i64 a4] w fun e w' => ∃ v0_ : Value, e = .returned (.tuple #[v0_, .int .i64 r2]) ∧ Kd.R (Kd.int .i32) 21 w' w.heap.size (fun k_ => (w.heap.size ≤ k_)) v0_ r1 ∧ Below w.heap.size w w' := by
  have hu90 := Try.underlying90
  have HR0 := Aside0.mk hr0
  have HC0 := Aside0.mk hc0
  clear hr0 hc0
  have HO2 := Aside0.mk (show Kd.V (Kd.int .i64) 3 w w.heap.size (fun k_ => (P2_ k_ ∨ w.heap.size ≤ k_)) (.slice A2 l2.length c2) l2 from Kd.V_mono hs2 (fun k_ hk => .inl hk))
  have HB := Aside0.mk (Below.refl w.heap.size w)
  have H : ((gain_may.f k (l0.length : Int) l0 a1).bind fun bt205 => (if bt205.2 = 0 then ((gain_restorable.f k l0 l2 a3 a4).bind fun t207 => (gain_Restore.j0 k l0 l2 a3 a4 bt205.1 bt205.2 (!t207))) else (gain_Restore.j0 k l0 l2 a3 a4 bt205.1 bt205.2 false))) = some (r1, r2) := h
  clear h
  replace H := Option.bind_eq_some_iff.mp H
  obtain ⟨⟨t205, t206⟩, A60, H⟩ := H
  replace H : (if t206 = 0 then ((gain_restorable.f k l0 l2 a3 a4).bind fun t207 => (gain_Restore.j0 k l0 l2 a3 a4 t205 t206 (!t207))) else (gain_Restore.j0 k l0 l2 a3 a4 t205 t206 false)) = some (r1, r2) := H
  have A6 := Aside0.mk A60
  clear A60
  have HC7 := Aside0.mk H
  clear H
  go_enter Try.func43, Try.ntmps43
  go_upto_region 2 with (first | ((with_reducible refine gate_callee (f := 62) rfl ?_); refine goesL_ (some 26) rfl rfl Try.func62 (by kernel_rfl) rfl #[.int .i64 (l0.length : Int), .slice A0 l0.length c0, .int .i64 a1] rfl (by (try simp only [List.map_toArray, List.map_cons, List.map_nil]); first | done | rfl | (simp only [List.length_drop, List.length_take]; rfl)) ?_; (with_reducible refine (gain_may.calls k (l0.length : Int) _ _ l0 a1 t205 t206 _ ?side1 ?side2 A6.out).mono ?_); (case side1 => repeat (first | exact HR0.out | (with_reducible refine Kd.C_alloc ?_ _) | (with_reducible refine Kd.C_drewN ?_ _) | (with_reducible refine Kd.C_drew ?_))); (case side2 => exact HC0.out); rintro e w' ⟨rfl, ⟨nd, rfl⟩⟩; refine ⟨_, rfl, ?_⟩))
  (try simp only [Act.put, List.setIfInBounds_toArray, List.set_cons_zero, List.set_cons_succ])
  go_cut [38] (fun v38 wc => ∃ (kq : Nat) (x38_6 : Bool), v38 = .bool x38_6 ∧ Aside0 (gain_Restore.j0 kq l0 l2 a3 a4 t205 t206 x38_6 = some (r1, r2)) ∧ Aside0 (kq ≤ k) ∧ Aside0 (Kd.V (Kd.int .i64) 3 wc w.heap.size (fun k_ => (P2_ k_ ∨ w.heap.size ≤ k_)) (.slice A2 l2.length c2) l2) ∧ Aside0 (Below w.heap.size w wc))
  case first =>
    have H := HC7.out
    clear HC7
    by_cases c8 : t206 = 0
    · rw [if_pos c8] at H
      have c8b0 : (t206 == 0) = true := beq_iff_eq.mpr c8
      have c8b1 : (t206 != 0) = false := bne_eq_false_iff_eq.mpr c8
      clear c8
      (first | rw [c8b0] | (simp only [i64_w, i32_w]; rw [c8b0]) | skip)
      replace H := Option.bind_eq_some_iff.mp H
      obtain ⟨t207, A90, H⟩ := H
      replace H : (gain_Restore.j0 k l0 l2 a3 a4 t205 t206 (!t207)) = some (r1, r2) := H
      have A9 := Aside0.mk A90
      clear A90
      have H' := Aside0.mk H
      clear H
      go_wp2_with (first | (go_at_call 63; (with_reducible refine (gain_restorable.calls k _ _ l0 _ _ l2 a3 a4 t207 _ ?side1 ?side2 ?side3 ?side4 A9.out).mono ?_); (case side1 => repeat (first | exact (Kd.C_below HR0.out HB.out) | (with_reducible refine Kd.C_alloc ?_ _) | (with_reducible refine Kd.C_drewN ?_ _) | (with_reducible refine Kd.C_drew ?_))); (case side2 => exact HC0.out); (case side3 => repeat (first | exact (Kd.V_reads' HO2.out).2.2 | (with_reducible refine Kd.C_alloc ?_ _) | (with_reducible refine Kd.C_drewN ?_ _) | (with_reducible refine Kd.C_drew ?_))); (case side4 => exact (Kd.V_reads' HO2.out).2.1); rintro e w' ⟨rfl, ⟨nd, rfl⟩⟩))
      go_meet
      case rel => exact ⟨_, (!t207), (by first | rfl | (simp; done) | (simp [*]; done)), H', ⟨by first | omega | exact Nat.le_refl _⟩, ⟨by (with_reducible repeat (first | apply Kd.V_alloc | apply Kd.V_drewN | apply Kd.V_drew)); exact HO2.out⟩, ⟨by repeat (first | (with_reducible first | exact HB.out | apply below_alloc | apply pw_below_drewN | apply below_drew1) | exact HB.out)⟩⟩
    · rw [if_neg c8] at H
      have c8b0 : (t206 == 0) = false := beq_eq_false_iff_ne.mpr c8
      have c8b1 : (t206 != 0) = true := bne_iff_ne.mpr c8
      (first | rw [c8b0] | (simp only [i64_w, i32_w]; rw [c8b0]) | skip)
      have H' := Aside0.mk H
      clear H
      go_wp2
      go_meet
      case rel => exact ⟨_, (false), (by first | rfl | (simp; done) | (simp [*]; done)), H', ⟨by first | omega | exact Nat.le_refl _⟩, ⟨by (with_reducible repeat (first | apply Kd.V_alloc | apply Kd.V_drewN | apply Kd.V_drew)); exact HO2.out⟩, ⟨by repeat (first | (with_reducible first | exact HB.out | apply below_alloc | apply pw_below_drewN | apply below_drew1) | exact HB.out)⟩⟩
  case rest =>
    clear HC7
    try clear c2
    try clear p2
    try clear c4
    try clear c6
    try clear c8
    try clear c8b0
    try clear c8b1
    obtain ⟨kq, x38_6, rfl, HA, HJ6, HO_2, HB⟩ := hcut
    cases kq with
    | zero => exact absurd HA.out (by simp [gain_Restore.j0])
    | succ kj6 =>
      have H := HA.out
      clear HA
      simp only [gain_Restore.j0] at H
      have HC10 := Aside0.mk H
      clear H
      go_upto_if 38 with (fail)
      go_cut [13] (fun v13 wc => ∃ (kq : Nat) (x13_9 : Int), v13 = .int .i64 x13_9 ∧ Aside0 (gain_Restore.j1 kq l0 l2 a3 a4 t205 x13_9 = some (r1, r2)) ∧ Aside0 (kq ≤ kj6) ∧ Aside0 (Kd.V (Kd.int .i64) 3 wc w.heap.size (fun k_ => (P2_ k_ ∨ w.heap.size ≤ k_)) (.slice A2 l2.length c2) l2) ∧ Aside0 (Below w.heap.size w wc))
      case first =>
        have H := HC10.out
        clear HC10
        by_cases c11 : x38_6 = true
        · subst c11
          have H1 : (gain_Restore.j1 kj6 l0 l2 a3 a4 t205 1) = some (r1, r2) := by rw [if_pos rfl] at H; exact H
          clear H
          have H := H1
          clear H1
          have H' := Aside0.mk H
          clear H
          go_wp2
          go_meet
          case rel => exact ⟨_, (1), (by first | rfl | (simp; done) | (simp [*]; done)), H', ⟨by have := HJ6.out; first | omega | exact Nat.le_refl _⟩, ⟨by (with_reducible repeat (first | apply Kd.V_alloc | apply Kd.V_drewN | apply Kd.V_drew)); exact HO_2.out⟩, ⟨by repeat (first | (with_reducible first | exact HB.out | apply below_alloc | apply pw_below_drewN | apply below_drew1) | exact HB.out)⟩⟩
        · replace c11 := Bool.eq_false_iff.mpr c11
          subst c11
          have H1 : (gain_Restore.j1 kj6 l0 l2 a3 a4 t205 t206) = some (r1, r2) := by rw [if_neg (show ¬ (false = true) by decide)] at H; exact H
          clear H
          have H := H1
          clear H1
          have H' := Aside0.mk H
          clear H
          go_wp2
          go_meet
          case rel => exact ⟨_, (t206), (by first | rfl | (simp; done) | (simp [*]; done)), H', ⟨by have := HJ6.out; first | omega | exact Nat.le_refl _⟩, ⟨by (with_reducible repeat (first | apply Kd.V_alloc | apply Kd.V_drewN | apply Kd.V_drew)); exact HO_2.out⟩, ⟨by repeat (first | (with_reducible first | exact HB.out | apply below_alloc | apply pw_below_drewN | apply below_drew1) | exact HB.out)⟩⟩
      case rest =>
        clear HC10
        try clear c1
        try clear c2
        try clear p2
        try clear c4
        try clear c6
        try clear c8
        try clear c8b0
        try clear c8b1
        try clear c11
        try clear p2
        obtain ⟨kq, x13_9, rfl, HA, HJ9, HO_2, HB⟩ := hcut
        cases kq with
        | zero => exact absurd HA.out (by simp [gain_Restore.j1])
        | succ kj9 =>
          have H := HA.out
          clear HA
          simp only [gain_Restore.j1] at H
          by_cases c12 : x13_9 = 0
          · rw [if_pos c12] at H
            have c12b0 : (x13_9 == 0) = true := beq_iff_eq.mpr c12
            have c12b1 : (x13_9 != 0) = false := bne_eq_false_iff_eq.mpr c12
            clear c12
            have H' := Aside0.mk H
            clear H
            go_wp2_with (first | ((with_reducible refine gate_dst (N := 14) rfl ?_); refine box_event ?hg (N := 14) ?hd (cs := #[.int .u16 0]) (t := 90) ?hr ?_; (case hd => rfl); (case hg => rfl); (case hr => first | (go_simp; done) | (go_simp; rfl)); intro gb208 hg w13 hbox hb; have n0_ := Aside0.mk (Kd.V_below (Kd.V_elderB (by (with_reducible repeat (first | apply Kd.V_alloc | apply Kd.V_drewN | apply Kd.V_drew)); exact HO_2.out) gb208 (Nat.le_of_eq hg.symm)) hb); have n1_ := Aside0.mk (below_step (by repeat (first | (with_reducible first | exact HB.out | apply below_alloc | apply pw_below_drewN | apply below_drew1) | exact HB.out)) hb); have n2_ := Aside0.mk (hbox); have n3_ := Aside0.mk ((by rw [hg]; exact (below_size (by repeat (first | (with_reducible first | exact HB.out | apply below_alloc | apply pw_below_drewN | apply below_drew1) | exact HB.out))) : w.heap.size ≤ gb208)); have n4_ := Aside0.mk ((by rw [hg]; exact (below_size (by repeat (first | (with_reducible first | exact HB.out | apply below_alloc | apply pw_below_drewN | apply below_drew1) | exact HB.out))) : w.heap.size ≤ gb208)); clear HO_2; clear HB; have HO_2 := n0_; have HB := n1_; have BK208 := n2_; have GW208 := n3_; have GE208 := n4_; clear n0_ n1_ n2_ n3_ n4_; clear hb hbox hg))
            go_loopg [44] kj9 (fun kq v44 w' => ∃ (x44_3 : Int) (x209000_3 : Int), v44 = .int .i64 x44_3 ∧ Aside0 (gain_Restore.l0 kq l0 l2 a3 a4 t205 l0 (l0.length : Int) x44_3 x209000_3 = some (r1, r2)) ∧ Aside0 (kq ≤ kj9) ∧ Aside0 (Kd.V (Kd.int .i64) 3 w' w.heap.size (fun k_ => (P2_ k_ ∨ w.heap.size ≤ k_) ∧ k_ ≠ gb208) (.slice A2 l2.length c2) l2) ∧ Aside0 (w'.heap[gb208]? = some (.cells #[.int .u16 x209000_3] 90 (0, 0))) ∧ Aside0 (Below w.heap.size w w'))
            case atStart => exact ⟨(0), (0), (by first | rfl | (simp; done) | (simp [*]; done)), H', ⟨Nat.le_refl _⟩, ⟨by (with_reducible repeat (first | apply Kd.V_alloc | apply Kd.V_drewN | apply Kd.V_drew)); exact HO_2.out⟩, ⟨by (with_reducible repeat (first | refine blk_drewN ?_ _ | refine blk_drew ?_ | refine blk_alloc ?_ _)); exact BK208.out⟩, ⟨by repeat (first | (with_reducible first | exact HB.out | apply below_alloc | apply pw_below_drewN | apply below_drew1 | refine below_set ?_ GE208.out) | exact HB.out)⟩⟩
            case round =>
              clear H'
              try clear c1
              try clear c2
              try clear p2
              try clear c4
              try clear c6
              try clear c8
              try clear c8b0
              try clear c8b1
              try clear c11
              try clear c12
              try clear c12b0
              try clear c12b1
              try clear p2
              obtain ⟨x44_3, x209000_3, rfl, HA, HK3, HO_2, BK208, HB⟩ := hrel
              cases gk with
              | zero => exact absurd HA.out (by simp [gain_Restore.l0])
              | succ k3 =>
                have H := HA.out
                clear HA
                simp only [gain_Restore.l0] at H
                by_cases c14 : x44_3 < (l0.length : Int)
                · rw [if_pos c14] at H
                  have c14b0 : decide (x44_3 < (l0.length : Int)) = true := decide_eq_true c14
                  clear c14
                  by_cases c15 : 0 ≤ x44_3
                  · rw [if_pos c15] at H
                    have c15b0 : decide (0 ≤ x44_3) = true := decide_eq_true c15
                    clear c15
                    by_cases c16 : x44_3 < (l0.length : Int)
                    · rw [if_pos c16] at H
                      have c16b0 : decide (x44_3 < (l0.length : Int)) = true := decide_eq_true c16
                      clear c16
                      replace H := Option.bind_eq_some_iff.mp H
                      obtain ⟨t210, A170, H⟩ := H
                      replace H : (gain_Restore.l0 k3 l0 l2 a3 a4 t205 l0 (l0.length : Int) (wrap64 (x44_3 + 1)) (IntKind.u16.wrap (x209000_3 + (IntKind.u16.wrap (t210))))) = some (r1, r2) := H
                      have A17 := Aside0.mk A170
                      clear A170
                      have H' := Aside0.mk H
                      clear H
                      have p209 : 0 ≤ (x44_3 : Int) := of_decide_eq_true (by first | (with_reducible assumption) | assumption)
                      have q209 : x44_3 < (l0.length : Int) := of_decide_eq_true (by first | (with_reducible assumption) | assumption)
                      obtain ⟨ad209, e209, hx209_0⟩ := Kd.at_int HR0.out x44_3 p209 q209
                      cases e209
                      replace hx209_0 := (HB.out.cell (World.block_lt_of_cell? w _ hx209_0)).trans hx209_0
                      replace p209 := eq_true p209
                      replace q209 := eq_true q209
                      try go_wp2
                      have n0_ := Aside0.mk (Kd.V_drew HO_2.out)
                      have n1_ := Aside0.mk (blk_drew BK208.out)
                      have n2_ := Aside0.mk (below_drew1 HB.out)
                      clear HO_2
                      clear BK208
                      clear HB
                      have HO_2 := n0_
                      have BK208 := n1_
                      have HB := n2_
                      clear n0_ n1_ n2_
                      refine start_ (n := 8) (S := fun w' => w'.cell? ⟨gb208, 0, none⟩ = some (.int .u16 x209000_3)) (ds := [7]) #[false, false, false, false, false, false, false, false] (by kernel_rfl) rfl rfl ((blk_cell BK208.out 0).trans rfl) (fun hHeld => ?_); refine with_tabW gain_Restore.tab10 gain_Restore.bits10 (fun HT_ HW_ => ?_)
                      generalize wr.drew = w18 at HO_2 BK208 HB hHeld ⊢
                      refine pure_ (i := 0) (N := some 48) (v := ?_) (a' := ?_) #[true, false, false, false, false, false, false, false] rfl rfl (any_of HT_.out (by kernel_rfl)) (fun _ _ _ h => h) (Or.inl ⟨by rfl, ?_⟩) ?_ ?_
                      rotate_left
                      · intro w'
                        go_simp
                        with_reducible rfl
                      rotate_left
                      · simp only [Act.put, List.setIfInBounds_toArray, List.set_cons_zero, List.set_cons_succ, i64_w, i32_w]
                        rfl
                      refine pure_ (i := 2) (N := some 50) (v := ?_) (a' := ?_) #[true, false, true, false, false, false, false, false] rfl rfl (any_of HT_.out (by kernel_rfl)) (fun _ _ _ h => h) (Or.inl ⟨by rfl, ?_⟩) ?_ ?_
                      rotate_left
                      · intro w'
                        go_simp
                        with_reducible rfl
                      rotate_left
                      · simp only [Act.put, List.setIfInBounds_toArray, List.set_cons_zero, List.set_cons_succ, i64_w, i32_w]
                        rfl
                      refine take_ (i := 1) (N := some 49) (v := ?_) (a' := ?_) #[true, true, true, false, false, false, false, false] rfl rfl (take_ofW HT_.out HW_.out (by kernel_rfl)) (fun _ _ _ h => h) (Or.inl ⟨by rfl, ?_⟩) hHeld ?_ ?_
                      rotate_left
                      · intro w' s0
                        go_simp
                        with_reducible rfl
                      rotate_left
                      · simp only [Act.put, List.setIfInBounds_toArray, List.set_cons_zero, List.set_cons_succ, i64_w, i32_w]
                        rfl
                      refine one_ (i := 3) (N := some 51) #[true, true, true, true, false, false, false, false] rfl rfl (one_of HT_.out (by kernel_rfl)) (by decide) (fun K hK => ?_)
                      refine goes_ Try.func64 (by kernel_rfl) rfl #[.int .i64 (rd l0 x44_3)] (by rfl) rfl rfl (by (try simp only [List.map_toArray, List.map_cons, List.map_nil]); first | done | rfl | (simp only [List.length_drop, List.length_take]; rfl)) ?_
                      with_reducible refine (gain_size_int.calls (rd l0 x44_3) t210 _ A17.out).mono ?_
                      rintro e w19 ⟨rfl, hb⟩
                      refine ⟨_, rfl, ?_⟩
                      have n0_ := Aside0.mk (Kd.V_below (by (with_reducible repeat (first | apply Kd.V_alloc | apply Kd.V_drewN | apply Kd.V_drew)); exact HO_2.out) hb)
                      have n1_ := Aside0.mk (blk_below (g := gb208) (o := .cells #[.int .u16 x209000_3] 90 (0, 0)) (by (with_reducible repeat (first | refine blk_drewN ?_ _ | refine blk_drew ?_ | refine blk_alloc ?_ _)); exact BK208.out) hb)
                      have n2_ := Aside0.mk (below_step (by repeat (first | (with_reducible first | exact HB.out | apply below_alloc | apply pw_below_drewN | apply below_drew1 | refine below_set ?_ GE208.out) | exact HB.out)) hb)
                      clear HO_2
                      clear BK208
                      clear HB
                      have HO_2 := n0_
                      have BK208 := n1_
                      have HB := n2_
                      clear n0_ n1_ n2_
                      (try clear hb)
                      (try clear hb2)
                      (try clear hk)
                      (try clear hi)
                      refine hK.out _ _ ((blk_cell BK208.out 0).trans rfl) (fun hHeld => ?_)
                      clear hK K
                      refine norm_ (a' := ?_) ?_ ?_
                      rotate_left
                      · show Act.put _ (some 51) _ = _
                        simp only [Act.put, List.setIfInBounds_toArray, List.set_cons_zero, List.set_cons_succ, i64_w, i32_w]
                        rfl
                      refine pure_ (i := 4) (N := some 52) (v := ?_) (a' := ?_) #[true, true, true, true, true, false, false, false] rfl rfl (any_of HT_.out (by kernel_rfl)) (fun _ _ _ h => h) (Or.inl ⟨by rfl, ?_⟩) ?_ ?_
                      rotate_left
                      · intro w'
                        go_simp
                        with_reducible rfl
                      rotate_left
                      · simp only [Act.put, List.setIfInBounds_toArray, List.set_cons_zero, List.set_cons_succ, i64_w, i32_w]
                        rfl
                      refine pure_ (i := 5) (N := some 53) (v := ?_) (a' := ?_) #[true, true, true, true, true, true, false, false] rfl rfl (any_of HT_.out (by kernel_rfl)) (fun _ _ _ h => h) (Or.inl ⟨by rfl, ?_⟩) ?_ ?_
                      rotate_left
                      · intro w'
                        go_simp
                        with_reducible rfl
                      rotate_left
                      · simp only [Act.put, List.setIfInBounds_toArray, List.set_cons_zero, List.set_cons_succ, i64_w, i32_w]
                        rfl
                      refine pure_ (i := 6) (N := some 54) (v := ?_) (a' := ?_) #[true, true, true, true, true, true, true, false] rfl rfl (any_of HT_.out (by kernel_rfl)) (fun _ _ _ h => h) (Or.inl ⟨by rfl, ?_⟩) ?_ ?_
                      rotate_left
                      · intro w'
                        go_simp
                        with_reducible rfl
                      rotate_left
                      · simp only [Act.put, List.setIfInBounds_toArray, List.set_cons_zero, List.set_cons_succ, i64_w, i32_w]
                        rfl
                      refine last_ (i := 7) (N := none) #[true, true, true, true, true, true, true, true] rfl rfl (one_of HT_.out (by kernel_rfl)) (by decide) (fun K hK => ?_)
                      have hs20 : w19.cell? ⟨gb208, 0, none⟩ = some (.int .u16 x209000_3) := (blk_cell BK208.out 0).trans rfl
                      have hfs20 := blk_frozen BK208.out 0
                      refine skip_ (w1 := ?_) (by rfl) rfl ?_ ?_
                      rotate_left
                      · go_simp
                        rfl
                      refine hK.out _ _ ?_
                      clear hK K
                      refine done_ (done_of HT_.out (by kernel_rfl)) ?_
                      try go_wp2
                      go_roundg k3
                      case measure => have := HJ6.out; have := HJ9.out; have := HK3.out; omega
                      case rel => exact ⟨(wrap64 (x44_3 + 1)), (IntKind.u16.wrap (x209000_3 + (IntKind.u16.wrap (t210)))), (by first | rfl | (simp; done) | (simp [*]; done)), H', ⟨by have := HJ6.out; have := HJ9.out; have := HK3.out; omega⟩, ⟨by (with_reducible repeat (first | apply Kd.V_alloc | apply Kd.V_drewN | apply Kd.V_drew)); exact Kd.V_mono (Kd.V_far (p := ⟨gb208, 0, none⟩) (Kd.V_mono HO_2.out (fun k_ hk => (⟨hk, hk.2⟩ : _ ∧ k_ ≠ gb208))) (fun _ hk => hk.2) (.int .u16 (IntKind.u16.wrap (x209000_3 + (IntKind.u16.wrap (t210)))))) (fun _ hk => ⟨hk.1.1, hk.1.2⟩)⟩, ⟨by (with_reducible repeat (first | refine blk_drewN ?_ _ | refine blk_drew ?_ | refine blk_alloc ?_ _)); refine blk_put (cs := #[.int .u16 x209000_3]) ?_ 0 _ rfl; (with_reducible repeat (first | refine blk_drewN ?_ _ | refine blk_drew ?_ | refine blk_alloc ?_ _)); exact BK208.out⟩, ⟨by repeat (first | (with_reducible first | exact HB.out | apply below_alloc | apply pw_below_drewN | apply below_drew1 | refine below_set ?_ GE208.out) | exact HB.out)⟩⟩
                    · rw [if_neg c16] at H
                      exact absurd H (by simp)
                  · rw [if_neg c15] at H
                    exact absurd H (by simp)
                · rw [if_neg c14] at H
                  have c14b0 : decide (x44_3 < (l0.length : Int)) = false := decide_eq_false c14
                  clear c14
                  by_cases c21 : 0 ≤ (l0.length : Int)
                  · rw [if_pos c21] at H
                    have c21b0 := eq_true c21
                    have c21b1 : decide (0 ≤ (l0.length : Int)) = true := decide_eq_true c21
                    clear c21
                    by_cases c22 : ((l0.length : Int) : Int).toNat ≤ 70368744177664
                    · rw [if_pos c22] at H
                      have c22b0 := eq_true c22
                      have c22b1 : decide (((l0.length : Int) : Int).toNat ≤ 70368744177664) = true := decide_eq_true c22
                      clear c22
                      obtain ⟨y211, hy211⟩ : ∃ y_ : List Int, y_ = (List.replicate ((l0.length : Int) : Int).toNat 0) := ⟨_, rfl⟩
                      replace H : (gain_Restore.l1 k3 l2 a3 a4 t205 y211 l0 (l0.length : Int) 0 x209000_3) = some (r1, r2) := by first | (rw [hy211]; with_reducible exact H) | (have H2_ := (Option.bind_some _ _).symm.trans H; rw [hy211]; with_reducible exact H2_) | (have H2_ := (Option.bind_some _ _).symm.trans H; with_reducible exact H2_) | with_reducible exact H | (rw [hy211]; exact H) | exact H
                      have Ny211 := Aside0.mk hy211
                      clear hy211
                      have H' := Aside0.mk H
                      clear H
                      go_wp2_with (first | ((with_reducible refine gate_dst (N := 58) rfl ?_); refine Kd.R_make (Kd.int .i32) _ 21 rfl (N := 58) rfl 22 _ _ rfl (l0.length : Int) rfl rfl Try.underlying22 (.int .i32 0) 4 info21 rfl (by decide) (by omega) 0 (ok := fun _ => True) (okp := fun _ => True) rfl (fun _ hk => hk) trivial (of_decide_eq_true (by first | (with_reducible assumption) | assumption)) (Nat.le_trans (Nat.mul_le_mul_right _ (of_decide_eq_true (by first | (with_reducible assumption) | assumption) : (l0.length : Int).toNat ≤ 70368744177664)) (by omega)) (Below.refl _ _) (Nat.le_refl _) ?_; intro v212 w23 ho24 hb hg_ hnew_; clear hg_ hnew_; (first | rw [← Ny211.out] at ho24 | (simp only [Int.reduceToNat] at ho24; rw [← Ny211.out] at ho24)); have n0_ := Aside0.mk (Kd.V_elder' (by (with_reducible repeat (first | apply Kd.V_alloc | apply Kd.V_drewN | apply Kd.V_drew)); exact HO_2.out) (Kd.R_base ho24) hb); have n1_ := Aside0.mk (Kd.R_lower (Kd.R_newM (M := fun k_ => (w.heap.size ≤ k_)) ho24 (below_size (by repeat (first | (with_reducible first | exact HB.out | apply below_alloc | apply pw_below_drewN | apply below_drew1 | refine below_set ?_ GE208.out) | exact HB.out))) (fun k_ h_ => h_)) (below_size (by repeat (first | (with_reducible first | exact HB.out | apply below_alloc | apply pw_below_drewN | apply below_drew1 | refine below_set ?_ GE208.out) | exact HB.out)))); have n2_ := Aside0.mk (blk_below (g := gb208) (o := .cells #[.int .u16 x209000_3] 90 (0, 0)) (by (with_reducible repeat (first | refine blk_drewN ?_ _ | refine blk_drew ?_ | refine blk_alloc ?_ _)); exact BK208.out) hb); have n3_ := Aside0.mk (below_step (by repeat (first | (with_reducible first | exact HB.out | apply below_alloc | apply pw_below_drewN | apply below_drew1 | refine below_set ?_ GE208.out) | exact HB.out)) hb); clear HO_2; clear BK208; clear HB; have HO_2 := n0_; have HO213 := n1_; have BK208 := n2_; have HB := n3_; clear n0_ n1_ n2_ n3_; clear hb ho24))
                      go_loopg [2, 61] k3 (fun kq v2 v61 w' => ∃ (x2_4 : List Int) (x17_4 : List Int) (x61_4 : Int) (x209000_4 : Int), v61 = .int .i64 x61_4 ∧ Aside0 (gain_Restore.l1 kq x2_4 a3 a4 t205 x17_4 l0 (l0.length : Int) x61_4 x209000_4 = some (r1, r2)) ∧ Aside0 (kq ≤ k3) ∧ Aside0 (Kd.V (Kd.int .i64) 3 w' w.heap.size (fun k_ => (P2_ k_ ∨ w.heap.size ≤ k_) ∧ some k_ ≠ (v212 : Value).ownBlock ∧ k_ ≠ gb208) v2 x2_4) ∧ Aside0 (Kd.R (Kd.int .i32) 21 w' w.heap.size (fun k_ => (w.heap.size ≤ k_)) v212 x17_4) ∧ Aside0 (w'.heap[gb208]? = some (.cells #[.int .u16 x209000_4] 90 (0, 0))) ∧ Aside0 (Below w.heap.size w w'))
                      case atStart => exact ⟨(l2), (y211), (0), (x209000_3), (by first | rfl | (simp; done) | (simp [*]; done)), H', ⟨Nat.le_refl _⟩, ⟨by (with_reducible repeat (first | apply Kd.V_alloc | apply Kd.V_drewN | apply Kd.V_drew)); exact Kd.V_mono HO_2.out (fun _ hk => ⟨hk.1.1, ⟨hk.2, hk.1.2⟩⟩)⟩, ⟨by (with_reducible repeat (first | apply Kd.R_alloc | apply Kd.R_drewN | apply Kd.R_drew)); exact Kd.R_mono HO213.out (fun _ hk => hk.1)⟩, ⟨by (with_reducible repeat (first | refine blk_drewN ?_ _ | refine blk_drew ?_ | refine blk_alloc ?_ _)); exact BK208.out⟩, ⟨by repeat (first | (with_reducible first | exact HB.out | apply below_alloc | apply pw_below_drewN | apply below_drew1 | refine below_set ?_ GE208.out) | exact HB.out)⟩⟩
                      case round =>
                        clear H'
                        try clear c1
                        try clear c2
                        try clear p2
                        try clear q2
                        try clear hx2
                        try clear c4
                        try clear c6
                        try clear p6
                        try clear c8
                        try clear c8b0
                        try clear c8b1
                        try clear c11
                        try clear c12
                        try clear c12b0
                        try clear c12b1
                        try clear c14
                        try clear c14b0
                        try clear c15
                        try clear c15b0
                        try clear c16
                        try clear c16b0
                        try clear p20
                        try clear q20
                        try clear hx20
                        try clear c21
                        try clear c21b0
                        try clear c21b1
                        try clear c22
                        try clear c22b0
                        try clear c22b1
                        try clear hx209_0
                        try clear p2
                        try clear p209
                        try clear q209
                        obtain ⟨x2_4, x17_4, x61_4, x209000_4, rfl, HA, HK4, HO_2, HO_17, BK208, HB⟩ := hrel
                        cases gk with
                        | zero => exact absurd HA.out (by simp [gain_Restore.l1])
                        | succ k4 =>
                          have H := HA.out
                          clear HA
                          simp only [gain_Restore.l1] at H
                          by_cases c25 : x61_4 < (l0.length : Int)
                          · rw [if_pos c25] at H
                            have c25b0 : decide (x61_4 < (l0.length : Int)) = true := decide_eq_true c25
                            clear c25
                            by_cases c26 : 0 ≤ x61_4
                            · rw [if_pos c26] at H
                              have c26b0 : decide (0 ≤ x61_4) = true := decide_eq_true c26
                              clear c26
                              by_cases c27 : x61_4 < (l0.length : Int)
                              · rw [if_pos c27] at H
                                have c27b0 : decide (x61_4 < (l0.length : Int)) = true := decide_eq_true c27
                                clear c27
                                replace H := Option.bind_eq_some_iff.mp H
                                obtain ⟨t215, A280, H⟩ := H
                                replace H : (if (rd l0 x61_4) = 0 then (if a3 > 0 then (gain_Restore.j4 k4 x2_4 a3 a4 t205 x17_4 x61_4 l0 (l0.length : Int) x61_4 (decide (x61_4 < a4)) x209000_4) else (gain_Restore.j4 k4 x2_4 a3 a4 t205 x17_4 x61_4 l0 (l0.length : Int) x61_4 false x209000_4)) else (if (x2_4.length : Int) > 0 then (if 0 < (x2_4.length : Int) then (if 1 ≤ (x2_4.length : Int) then ((fix_Round.f (wrap64 ((wrap64 (t215 * t205)) + (wrap64 ((wrap64 ((wrap64 (2 * (rd x2_4 0))) - 1)) * (wrap64 (Int.tdiv t205 4)))))) 16).bind fun t229 => ((gain_signed_int.f t229 (rd l0 x61_4)).bind fun t230 => ((fix_Sat32.f t230).bind fun t231 => (if x61_4 < (x17_4.length : Int) then (gain_Restore.l1 k4 (x2_4.drop 1) a3 a4 t205 (x17_4.set (x61_4 : Int).toNat t231) l0 (l0.length : Int) (wrap64 (x61_4 + 1)) x209000_4) else (none))))) else (none)) else (none)) else ((fix_Round.f (wrap64 (t215 * t205)) 16).bind fun t233 => ((gain_signed_int.f t233 (rd l0 x61_4)).bind fun t234 => ((fix_Sat32.f t234).bind fun t235 => (if x61_4 < (x17_4.length : Int) then (gain_Restore.l1 k4 x2_4 a3 a4 t205 (x17_4.set (x61_4 : Int).toNat t235) l0 (l0.length : Int) (wrap64 (x61_4 + 1)) x209000_4) else (none))))))) = some (r1, r2) := H
                                have A28 := Aside0.mk A280
                                clear A280
                                by_cases c29 : (rd l0 x61_4) = 0
                                · rw [if_pos c29] at H
                                  have c29b0 : ((rd l0 x61_4) == 0) = true := beq_iff_eq.mpr c29
                                  have c29b1 : ((rd l0 x61_4) != 0) = false := bne_eq_false_iff_eq.mpr c29
                                  clear c29
                                  have HC30 := Aside0.mk H
                                  clear H
                                  have p214 : 0 ≤ (x61_4 : Int) := of_decide_eq_true (by first | (with_reducible assumption) | assumption)
                                  have q214 : x61_4 < (l0.length : Int) := of_decide_eq_true (by first | (with_reducible assumption) | assumption)
                                  obtain ⟨ad214, e214, hx214_0⟩ := Kd.at_int HR0.out x61_4 p214 q214
                                  cases e214
                                  replace hx214_0 := (HB.out.cell (World.block_lt_of_cell? w _ hx214_0)).trans hx214_0
                                  replace p214 := eq_true p214
                                  replace q214 := eq_true q214
                                  go_upto_region 22 with (first | ((with_reducible refine gate_callee (f := 64) rfl ?_); refine goesL_ (some 67) rfl rfl Try.func64 (by kernel_rfl) rfl #[.int .i64 (rd l0 x61_4)] rfl (by (try simp only [List.map_toArray, List.map_cons, List.map_nil]); first | done | rfl | (simp only [List.length_drop, List.length_take]; rfl)) ?_; (with_reducible refine (gain_size_int.calls (rd l0 x61_4) t215 _ A28.out).mono ?_); rintro e w31 ⟨rfl, hb⟩; refine ⟨_, rfl, ?_⟩; have n0_ := Aside0.mk (Kd.V_below (by (with_reducible repeat (first | apply Kd.V_alloc | apply Kd.V_drewN | apply Kd.V_drew)); exact HO_2.out) hb); have n1_ := Aside0.mk (Kd.R_below (by (with_reducible repeat (first | apply Kd.R_alloc | apply Kd.R_drewN | apply Kd.R_drew)); exact HO_17.out) hb); have n2_ := Aside0.mk (blk_below (g := gb208) (o := .cells #[.int .u16 x209000_4] 90 (0, 0)) (by (with_reducible repeat (first | refine blk_drewN ?_ _ | refine blk_drew ?_ | refine blk_alloc ?_ _)); exact BK208.out) hb); have n3_ := Aside0.mk (below_step (by repeat (first | (with_reducible first | exact HB.out | apply below_alloc | apply pw_below_drewN | apply below_drew1 | refine below_set ?_ GE208.out) | exact HB.out)) hb); clear HO_2; clear HO_17; clear BK208; clear HB; have HO_2 := n0_; have HO_17 := n1_; have BK208 := n2_; have HB := n3_; clear n0_ n1_ n2_ n3_; (try clear hb); (try clear hb2); (try clear hk); (try clear hi)))
                                  (try simp only [Act.put, List.setIfInBounds_toArray, List.set_cons_zero, List.set_cons_succ])
                                  go_cut [96] (fun v96 wc => ∃ (kq : Nat) (x96_29 : Bool), v96 = .bool x96_29 ∧ Aside0 (gain_Restore.j4 kq x2_4 a3 a4 t205 x17_4 x61_4 l0 (l0.length : Int) x61_4 x96_29 x209000_4 = some (r1, r2)) ∧ Aside0 (kq ≤ k4) ∧ Aside0 (Kd.V (Kd.int .i64) 3 wc w.heap.size (fun k_ => (P2_ k_ ∨ w.heap.size ≤ k_) ∧ some k_ ≠ (v212 : Value).ownBlock ∧ k_ ≠ gb208) u2 x2_4) ∧ Aside0 (Kd.R (Kd.int .i32) 21 wc w.heap.size (fun k_ => (w.heap.size ≤ k_)) v212 x17_4) ∧ Aside0 (wc.heap[gb208]? = some (.cells #[.int .u16 x209000_4] 90 (0, 0))) ∧ Aside0 (Below w.heap.size w wc))
                                  case first =>
                                    have H := HC30.out
                                    clear HC30
                                    by_cases c32 : a3 > 0
                                    · rw [if_pos c32] at H
                                      have c32b0 : decide (0 < a3) = true := decide_eq_true c32
                                      clear c32
                                      (first | rw [c32b0] | (simp only [i64_w, i32_w]; rw [c32b0]) | skip)
                                      have H' := Aside0.mk H
                                      clear H
                                      go_wp2
                                      go_meet
                                      case rel => exact ⟨_, (decide (x61_4 < a4)), (by first | rfl | (simp; done) | (simp [*]; done)), H', ⟨by have := HJ6.out; have := HJ9.out; have := HK3.out; have := HK4.out; first | omega | exact Nat.le_refl _⟩, ⟨by (with_reducible repeat (first | apply Kd.V_alloc | apply Kd.V_drewN | apply Kd.V_drew)); exact HO_2.out⟩, ⟨by (with_reducible repeat (first | apply Kd.R_alloc | apply Kd.R_drewN | apply Kd.R_drew)); exact HO_17.out⟩, ⟨by (with_reducible repeat (first | refine blk_drewN ?_ _ | refine blk_drew ?_ | refine blk_alloc ?_ _)); exact BK208.out⟩, ⟨by repeat (first | (with_reducible first | exact HB.out | apply below_alloc | apply pw_below_drewN | apply below_drew1 | refine below_set ?_ GE208.out) | exact HB.out)⟩⟩
                                    · rw [if_neg c32] at H
                                      have c32b0 : decide (0 < a3) = false := decide_eq_false c32
                                      clear c32
                                      (first | rw [c32b0] | (simp only [i64_w, i32_w]; rw [c32b0]) | skip)
                                      have H' := Aside0.mk H
                                      clear H
                                      go_wp2
                                      go_meet
                                      case rel => exact ⟨_, (false), (by first | rfl | (simp; done) | (simp [*]; done)), H', ⟨by have := HJ6.out; have := HJ9.out; have := HK3.out; have := HK4.out; first | omega | exact Nat.le_refl _⟩, ⟨by (with_reducible repeat (first | apply Kd.V_alloc | apply Kd.V_drewN | apply Kd.V_drew)); exact HO_2.out⟩, ⟨by (with_reducible repeat (first | apply Kd.R_alloc | apply Kd.R_drewN | apply Kd.R_drew)); exact HO_17.out⟩, ⟨by (with_reducible repeat (first | refine blk_drewN ?_ _ | refine blk_drew ?_ | refine blk_alloc ?_ _)); exact BK208.out⟩, ⟨by repeat (first | (with_reducible first | exact HB.out | apply below_alloc | apply pw_below_drewN | apply below_drew1 | refine below_set ?_ GE208.out) | exact HB.out)⟩⟩
                                  case rest =>
                                    clear HC30
                                    try clear c1
                                    try clear c2
                                    try clear p2
                                    try clear q2
                                    try clear hx2
                                    try clear c3
                                    try clear c4
                                    try clear c6
                                    try clear p6
                                    try clear c8
                                    try clear c8b0
                                    try clear c8b1
                                    try clear c11
                                    try clear c12
                                    try clear c12b0
                                    try clear c12b1
                                    try clear c14
                                    try clear c14b0
                                    try clear c15
                                    try clear c15b0
                                    try clear c16
                                    try clear c16b0
                                    try clear p20
                                    try clear q20
                                    try clear hx20
                                    try clear c21
                                    try clear c21b0
                                    try clear c21b1
                                    try clear p21
                                    try clear q21
                                    try clear hx21
                                    try clear c22
                                    try clear c22b0
                                    try clear c22b1
                                    try clear c25
                                    try clear c25b0
                                    try clear c26
                                    try clear c26b0
                                    try clear c27
                                    try clear c27b0
                                    try clear c29
                                    try clear c29b0
                                    try clear c29b1
                                    try clear c32
                                    try clear c32b0
                                    try clear hx209_0
                                    try clear hx214_0
                                    try clear p2
                                    try clear p20
                                    try clear p209
                                    try clear p214
                                    try clear p6
                                    try clear q2
                                    try clear q20
                                    try clear q209
                                    try clear q214
                                    obtain ⟨kq, x96_29, rfl, HA, HJ29, HO_2, HO_17, BK208, HB⟩ := hcut
                                    cases kq with
                                    | zero => exact absurd HA.out (by simp [gain_Restore.j4])
                                    | succ kj29 =>
                                      have H := HA.out
                                      clear HA
                                      simp only [gain_Restore.j4] at H
                                      by_cases c33 : x96_29 = true
                                      · subst c33
                                        have H1 : ((fix_Round.f (wrap64 (Int.tdiv (wrap64 (a3 * t205)) 16)) 16).bind fun t216 => ((gain_dice_throw.f x209000_4).bind fun bt217 => (if bt217.1 = true then ((fix_Sat32.f (wrap64 (-t216))).bind fun t219 => (if 0 ≤ x61_4 then (if x61_4 < (x17_4.length : Int) then (gain_Restore.l1 kj29 x2_4 a3 a4 t205 (x17_4.set (x61_4 : Int).toNat t219) l0 (l0.length : Int) (wrap64 (x61_4 + 1)) bt217.2) else (none)) else (none))) else ((fix_Sat32.f t216).bind fun t221 => (if 0 ≤ x61_4 then (if x61_4 < (x17_4.length : Int) then (gain_Restore.l1 kj29 x2_4 a3 a4 t205 (x17_4.set (x61_4 : Int).toNat t221) l0 (l0.length : Int) (wrap64 (x61_4 + 1)) bt217.2) else (none)) else (none)))))) = some (r1, r2) := by rw [if_pos rfl] at H; exact H
                                        clear H
                                        have H := H1
                                        clear H1
                                        replace H := Option.bind_eq_some_iff.mp H
                                        obtain ⟨t216, A340, H⟩ := H
                                        replace H : ((gain_dice_throw.f x209000_4).bind fun bt217 => (if bt217.1 = true then ((fix_Sat32.f (wrap64 (-t216))).bind fun t219 => (if 0 ≤ x61_4 then (if x61_4 < (x17_4.length : Int) then (gain_Restore.l1 kj29 x2_4 a3 a4 t205 (x17_4.set (x61_4 : Int).toNat t219) l0 (l0.length : Int) (wrap64 (x61_4 + 1)) bt217.2) else (none)) else (none))) else ((fix_Sat32.f t216).bind fun t221 => (if 0 ≤ x61_4 then (if x61_4 < (x17_4.length : Int) then (gain_Restore.l1 kj29 x2_4 a3 a4 t205 (x17_4.set (x61_4 : Int).toNat t221) l0 (l0.length : Int) (wrap64 (x61_4 + 1)) bt217.2) else (none)) else (none))))) = some (r1, r2) := H
                                        have A34 := Aside0.mk A340
                                        clear A340
                                        replace H := Option.bind_eq_some_iff.mp H
                                        obtain ⟨⟨t217, t218⟩, A350, H⟩ := H
                                        replace H : (if t217 = true then ((fix_Sat32.f (wrap64 (-t216))).bind fun t219 => (if 0 ≤ x61_4 then (if x61_4 < (x17_4.length : Int) then (gain_Restore.l1 kj29 x2_4 a3 a4 t205 (x17_4.set (x61_4 : Int).toNat t219) l0 (l0.length : Int) (wrap64 (x61_4 + 1)) t218) else (none)) else (none))) else ((fix_Sat32.f t216).bind fun t221 => (if 0 ≤ x61_4 then (if x61_4 < (x17_4.length : Int) then (gain_Restore.l1 kj29 x2_4 a3 a4 t205 (x17_4.set (x61_4 : Int).toNat t221) l0 (l0.length : Int) (wrap64 (x61_4 + 1)) t218) else (none)) else (none)))) = some (r1, r2) := H
                                        have A35 := Aside0.mk A350
                                        clear A350
                                        by_cases c36 : t217 = true
                                        · subst c36
                                          have H1 : ((fix_Sat32.f (wrap64 (-t216))).bind fun t219 => (if 0 ≤ x61_4 then (if x61_4 < (x17_4.length : Int) then (gain_Restore.l1 kj29 x2_4 a3 a4 t205 (x17_4.set (x61_4 : Int).toNat t219) l0 (l0.length : Int) (wrap64 (x61_4 + 1)) t218) else (none)) else (none))) = some (r1, r2) := by rw [if_pos rfl] at H; exact H
                                          clear H
                                          have H := H1
                                          clear H1
                                          replace H := Option.bind_eq_some_iff.mp H
                                          obtain ⟨t219, A370, H⟩ := H
                                          replace H : (if 0 ≤ x61_4 then (if x61_4 < (x17_4.length : Int) then (gain_Restore.l1 kj29 x2_4 a3 a4 t205 (x17_4.set (x61_4 : Int).toNat t219) l0 (l0.length : Int) (wrap64 (x61_4 + 1)) t218) else (none)) else (none)) = some (r1, r2) := H
                                          have A37 := Aside0.mk A370
                                          clear A370
                                          by_cases c38 : 0 ≤ x61_4
                                          · rw [if_pos c38] at H
                                            have c38b0 : decide (0 ≤ x61_4) = true := decide_eq_true c38
                                            clear c38
                                            by_cases c39 : x61_4 < (x17_4.length : Int)
                                            · rw [if_pos c39] at H
                                              have c39b0 : decide (x61_4 < (x17_4.length : Int)) = true := decide_eq_true c39
                                              clear c39
                                              obtain ⟨y220, hy220⟩ : ∃ y_ : List Int, y_ = (x17_4.set (x61_4 : Int).toNat t219) := ⟨_, rfl⟩
                                              replace H : (gain_Restore.l1 kj29 x2_4 a3 a4 t205 y220 l0 (l0.length : Int) (wrap64 (x61_4 + 1)) t218) = some (r1, r2) := by first | (rw [hy220]; with_reducible exact H) | (have H2_ := (Option.bind_some _ _).symm.trans H; rw [hy220]; with_reducible exact H2_) | (have H2_ := (Option.bind_some _ _).symm.trans H; with_reducible exact H2_) | with_reducible exact H | (rw [hy220]; exact H) | exact H
                                              have Ny220 := Aside0.mk hy220
                                              clear hy220
                                              have H' := Aside0.mk H
                                              clear H
                                              go_wp2_with (first | ((with_reducible refine gate_callee (f := 51) rfl ?_); refine goesL_ (some 108) rfl rfl Try.func51 (by kernel_rfl) rfl #[.int .i64 (wrap64 (Int.tdiv (wrap64 (a3 * t205)) 16)), .int .i64 16] rfl (by (try simp only [List.map_toArray, List.map_cons, List.map_nil]); first | done | rfl | (simp only [List.length_drop, List.length_take]; rfl)) ?_; (with_reducible refine (fix_Round.calls (wrap64 (Int.tdiv (wrap64 (a3 * t205)) 16)) 16 t216 _ A34.out).mono ?_); rintro e w' ⟨rfl, ⟨nd, rfl⟩⟩; refine ⟨_, rfl, ?_⟩; (try (rw [drewN_self wc]; generalize hq_ : World.drewN wc _ = wc; have n0_ : Aside0 (Kd.R (Kd.int .i32) 21 wc w.heap.size (fun k_ => (w.heap.size ≤ k_)) v212 x17_4) := ⟨by rw [← hq_]; exact (by (with_reducible repeat (first | apply Kd.R_alloc | apply Kd.R_drewN | apply Kd.R_drew)); exact HO_17.out)⟩; have n1_ : Aside0 (Kd.V (Kd.int .i64) 3 wc w.heap.size (fun k_ => (P2_ k_ ∨ w.heap.size ≤ k_) ∧ some k_ ≠ (v212 : Value).ownBlock ∧ k_ ≠ gb208) u2 x2_4) := ⟨by rw [← hq_]; exact (by (with_reducible repeat (first | apply Kd.V_alloc | apply Kd.V_drewN | apply Kd.V_drew)); exact HO_2.out)⟩; have n2_ : Aside0 (wc.heap[gb208]? = some (.cells #[.int .u16 x209000_4] 90 (0, 0))) := ⟨by rw [← hq_]; exact (by (with_reducible repeat (first | refine blk_drewN ?_ _ | refine blk_drew ?_ | refine blk_alloc ?_ _)); exact BK208.out)⟩; have n3_ : Aside0 (Below w.heap.size w wc) := ⟨by rw [← hq_]; exact (by repeat (first | (with_reducible first | exact HB.out | apply below_alloc | apply pw_below_drewN | apply below_drew1 | refine below_set ?_ GE208.out) | exact HB.out))⟩; clear HO_17 HO_2 BK208 HB hq_; have HO_17 := n0_; have HO_2 := n1_; have BK208 := n2_; have HB := n3_; clear n0_ n1_ n2_ n3_)); have HI208 := Aside0.mk (show IsS90 w _ gb208 x209000_4 from ⟨BK208.out, GE208.out⟩)) | ((with_reducible refine gate_callee (f := 67) rfl ?_); refine goesL_ (some 109) rfl rfl Try.func67 (by kernel_rfl) rfl #[.pointer (some ⟨gb208, 0, none⟩)] rfl (by (try simp only [List.map_toArray, List.map_cons, List.map_nil]); first | done | rfl | (simp only [List.length_drop, List.length_take]; rfl)) ?_; (with_reducible refine (gain_dice_throw.calls gb208 x209000_4 true t218 w _ ?side1 ?side2 A35.out).mono ?_); (case side1 => repeat (first | (with_reducible first | exact HI208.out | apply IsS90.alloc | apply IsS90.drewN | apply IsS90.drew | apply IsS90.set_0) | exact HI208.out)); (case side2 => repeat (first | (with_reducible first | exact HB.out | apply below_alloc | apply pw_below_drewN | apply below_drew1 | refine below_set ?_ (IsS90.ge HI208.out)) | exact HB.out)); rintro e w41 ⟨rfl, hi, hb, hk⟩; refine ⟨_, rfl, ?_⟩; have n0_ := Aside0.mk (Kd.V_mono (Kd.V_keep (Kd.V_mono (ok := fun k_ => (((P2_ k_ ∨ w.heap.size ≤ k_)) ∧ (some k_ ≠ (v212 : Value).ownBlock ∧ k_ ≠ gb208))) (by (with_reducible repeat (first | apply Kd.V_alloc | apply Kd.V_drewN | apply Kd.V_drew)); exact HO_2.out) (fun k_ hk_ => (⟨hk_, hk_.2.2⟩ : _ ∧ k_ ≠ gb208))) hk (fun _ h => h.2)) (fun _ h => h.1)); have n1_ := Aside0.mk (Kd.R_mono (Kd.R_keep (IsS90.apart (show IsS90 w _ gb208 x209000_4 from by repeat (first | (with_reducible first | exact HI208.out | apply IsS90.alloc | apply IsS90.drewN | apply IsS90.drew | apply IsS90.set_0) | exact HI208.out)) (by (with_reducible repeat (first | apply Kd.R_alloc | apply Kd.R_drewN | apply Kd.R_drew)); exact HO_17.out) (by decide)) hk (fun _ h => h.2)) (fun _ h => h.1)); have n2_ := Aside0.mk (hb); have n3_ := Aside0.mk (hi.1); clear HO_2; clear HO_17; clear HB; clear BK208; clear HI208; have HO_2 := n0_; have HO_17 := n1_; have HB := n2_; have BK208 := n3_; clear n0_ n1_ n2_ n3_; (try clear hb); (try clear hb2); (try clear hk); (try clear hi)) | ((with_reducible refine gate_callee (f := 65) rfl ?_); refine goesL_ (some 115) rfl rfl Try.func65 (by kernel_rfl) rfl #[.int .i64 (wrap64 (-t216))] rfl (by (try simp only [List.map_toArray, List.map_cons, List.map_nil]); first | done | rfl | (simp only [List.length_drop, List.length_take]; rfl)) ?_; (with_reducible refine (fix_Sat32.calls (wrap64 (-t216)) t219 _ A37.out).mono ?_); rintro e w' ⟨rfl, ⟨nd, rfl⟩⟩; refine ⟨_, rfl, ?_⟩; (try (rw [drewN_self w41]; generalize hq_ : World.drewN w41 _ = w41; have n0_ : Aside0 (Kd.R (Kd.int .i32) 21 w41 w.heap.size (fun k_ => (w.heap.size ≤ k_)) v212 x17_4) := ⟨by rw [← hq_]; exact (by (with_reducible repeat (first | apply Kd.R_alloc | apply Kd.R_drewN | apply Kd.R_drew)); exact HO_17.out)⟩; have n1_ : Aside0 (Kd.V (Kd.int .i64) 3 w41 w.heap.size (fun k_ => (P2_ k_ ∨ w.heap.size ≤ k_) ∧ some k_ ≠ (v212 : Value).ownBlock ∧ k_ ≠ gb208) u2 x2_4) := ⟨by rw [← hq_]; exact (by (with_reducible repeat (first | apply Kd.V_alloc | apply Kd.V_drewN | apply Kd.V_drew)); exact HO_2.out)⟩; have n2_ : Aside0 (w41.heap[gb208]? = some (.cells #[.int .u16 t218] 90 (0, 0))) := ⟨by rw [← hq_]; exact (by (with_reducible repeat (first | refine blk_drewN ?_ _ | refine blk_drew ?_ | refine blk_alloc ?_ _)); exact BK208.out)⟩; have n3_ : Aside0 (Below w.heap.size w w41) := ⟨by rw [← hq_]; exact (by repeat (first | (with_reducible first | exact HB.out | apply below_alloc | apply pw_below_drewN | apply below_drew1 | refine below_set ?_ GE208.out) | exact HB.out))⟩; clear HO_17 HO_2 BK208 HB hq_; have HO_17 := n0_; have HO_2 := n1_; have BK208 := n2_; have HB := n3_; clear n0_ n1_ n2_ n3_)); have p40 : 0 ≤ (x61_4 : Int) := of_decide_eq_true (by first | (with_reducible assumption) | assumption); have q40 : (x61_4 : Int) < ((x17_4.length : Int) : Int) := of_decide_eq_true (by first | (with_reducible assumption) | assumption); obtain ⟨go40, co40, eo40, gb40, gl40, cl40, HG40⟩ := Kd.R_form HO_17.out (by omega); (first | cases eo40 | (injection eo40 with ea_ en_ ec_; (first | subst ea_ | (injection ea_ with ea_; subst ea_)); subst ec_; clear en_)); have GB40 := Aside0.mk gb40; have GG40 := Aside0.mk HG40; clear gb40 gl40 HG40; obtain ⟨hx40_0, hf40_0⟩ := Kd.R_celln 0 HO_17.out (x61_4 : Int) p40 q40; replace p40 := eq_true p40; replace q40 := eq_true q40; obtain ⟨hy42_, hz42_⟩ := Kd.R_celln 0 HO_17.out (x61_4 : Int) (of_decide_eq_true (by first | (with_reducible assumption) | assumption)) (of_decide_eq_true (by first | (with_reducible assumption) | assumption)); have HP42 := Kd.R_putg HO_17.out (x61_4 : Int) t219) | ((with_reducible refine gate_store (t := 21) (p := 116) rfl ?_); refine store_event (t := 21) (p := 116) (v := ?vo_w43) (w1 := (w41.setCell ⟨go40, (x61_4 : Int).toNat, none⟩ (.int .i32 t219))) ?hg ?ho ?hn ?hr ?_; (case ho => rfl); (case hg => rfl); (case hn => rfl); (case hr => first | (go_simp; done) | (go_simp; rfl)); intro w43 hw; have hg : w41.grownBy w43 (some go40) := (by rw [hw]; exact HP42.2); have hp_ : Kd.R (Kd.int .i32) 21 w43 w.heap.size (fun k_ => (w.heap.size ≤ k_)) (.slice (some ⟨go40, 0, none⟩) x17_4.length co40) y220 := (by rw [hw, Ny220.out]; exact HP42.1); clear HP42; have n0_ := Aside0.mk (Kd.V_afterv (v := (.slice (some ⟨go40, 0, none⟩) x17_4.length co40)) (v1 := (.slice (some ⟨go40, 0, none⟩) x17_4.length co40)) (ok := (fun k_ => (P2_ k_ ∨ w.heap.size ≤ k_) ∧ k_ ≠ gb208)) (by (with_reducible repeat (first | apply Kd.V_alloc | apply Kd.V_drewN | apply Kd.V_drew)); exact Kd.V_mono HO_2.out (fun _ hk => ⟨⟨hk.1, hk.2.2⟩, hk.2.1⟩)) hg (.inl rfl)); have n1_ := Aside0.mk (hp_); have n2_ := Aside0.mk (blk_grown (g := gb208) (o := .cells #[.int .u16 t218] 90 (0, 0)) (by (with_reducible repeat (first | refine blk_drewN ?_ _ | refine blk_drew ?_ | refine blk_alloc ?_ _)); exact BK208.out) hg (Kd.R_ne HO_17.out BK208.out (by decide))); have n3_ := Aside0.mk ((by rw [hw]; exact below_set (HB.out) GB40.out : Below w.heap.size w w43)); clear HO_2; clear HO_17; clear BK208; clear HB; have HO_2 := n0_; have HO_17 := n1_; have BK208 := n2_; have HB := n3_; clear n0_ n1_ n2_ n3_; clear hg hw hp_))
                                              go_roundg kj29
                                              case measure => have := HJ6.out; have := HJ9.out; have := HK3.out; have := HK4.out; have := HJ29.out; omega
                                              case rel => exact ⟨(x2_4), (y220), (wrap64 (x61_4 + 1)), (t218), (by first | rfl | (simp; done) | (simp [*]; done)), H', ⟨by have := HJ6.out; have := HJ9.out; have := HK3.out; have := HK4.out; have := HJ29.out; omega⟩, ⟨by (with_reducible repeat (first | apply Kd.V_alloc | apply Kd.V_drewN | apply Kd.V_drew)); exact Kd.V_mono HO_2.out (fun _ hk => ⟨hk.1.1, ⟨hk.2, hk.1.2⟩⟩)⟩, ⟨by (with_reducible repeat (first | apply Kd.R_alloc | apply Kd.R_drewN | apply Kd.R_drew)); exact HO_17.out⟩, ⟨by (with_reducible repeat (first | refine blk_drewN ?_ _ | refine blk_drew ?_ | refine blk_alloc ?_ _)); exact BK208.out⟩, ⟨by repeat (first | (with_reducible first | exact HB.out | apply below_alloc | apply pw_below_drewN | apply below_drew1 | refine below_set ?_ GE208.out) | exact HB.out)⟩⟩
                                            · rw [if_neg c39] at H
                                              exact absurd H (by simp)
                                          · rw [if_neg c38] at H
                                            exact absurd H (by simp)
                                        · replace c36 := Bool.eq_false_iff.mpr c36
                                          subst c36
                                          have H1 : ((fix_Sat32.f t216).bind fun t221 => (if 0 ≤ x61_4 then (if x61_4 < (x17_4.length : Int) then (gain_Restore.l1 kj29 x2_4 a3 a4 t205 (x17_4.set (x61_4 : Int).toNat t221) l0 (l0.length : Int) (wrap64 (x61_4 + 1)) t218) else (none)) else (none))) = some (r1, r2) := by rw [if_neg (show ¬ (false = true) by decide)] at H; exact H
                                          clear H
                                          have H := H1
                                          clear H1
                                          replace H := Option.bind_eq_some_iff.mp H
                                          obtain ⟨t221, A440, H⟩ := H
                                          replace H : (if 0 ≤ x61_4 then (if x61_4 < (x17_4.length : Int) then (gain_Restore.l1 kj29 x2_4 a3 a4 t205 (x17_4.set (x61_4 : Int).toNat t221) l0 (l0.length : Int) (wrap64 (x61_4 + 1)) t218) else (none)) else (none)) = some (r1, r2) := H
                                          have A44 := Aside0.mk A440
                                          clear A440
                                          by_cases c45 : 0 ≤ x61_4
                                          · rw [if_pos c45] at H
                                            have c45b0 : decide (0 ≤ x61_4) = true := decide_eq_true c45
                                            clear c45
                                            by_cases c46 : x61_4 < (x17_4.length : Int)
                                            · rw [if_pos c46] at H
                                              have c46b0 : decide (x61_4 < (x17_4.length : Int)) = true := decide_eq_true c46
                                              clear c46
                                              obtain ⟨y222, hy222⟩ : ∃ y_ : List Int, y_ = (x17_4.set (x61_4 : Int).toNat t221) := ⟨_, rfl⟩
                                              replace H : (gain_Restore.l1 kj29 x2_4 a3 a4 t205 y222 l0 (l0.length : Int) (wrap64 (x61_4 + 1)) t218) = some (r1, r2) := by first | (rw [hy222]; with_reducible exact H) | (have H2_ := (Option.bind_some _ _).symm.trans H; rw [hy222]; with_reducible exact H2_) | (have H2_ := (Option.bind_some _ _).symm.trans H; with_reducible exact H2_) | with_reducible exact H | (rw [hy222]; exact H) | exact H
                                              have Ny222 := Aside0.mk hy222
                                              clear hy222
                                              have H' := Aside0.mk H
                                              clear H
                                              go_wp2_with (first | ((with_reducible refine gate_callee (f := 51) rfl ?_); refine goesL_ (some 108) rfl rfl Try.func51 (by kernel_rfl) rfl #[.int .i64 (wrap64 (Int.tdiv (wrap64 (a3 * t205)) 16)), .int .i64 16] rfl (by (try simp only [List.map_toArray, List.map_cons, List.map_nil]); first | done | rfl | (simp only [List.length_drop, List.length_take]; rfl)) ?_; (with_reducible refine (fix_Round.calls (wrap64 (Int.tdiv (wrap64 (a3 * t205)) 16)) 16 t216 _ A34.out).mono ?_); rintro e w' ⟨rfl, ⟨nd, rfl⟩⟩; refine ⟨_, rfl, ?_⟩; (try (rw [drewN_self wc]; generalize hq_ : World.drewN wc _ = wc; have n0_ : Aside0 (Kd.R (Kd.int .i32) 21 wc w.heap.size (fun k_ => (w.heap.size ≤ k_)) v212 x17_4) := ⟨by rw [← hq_]; exact (by (with_reducible repeat (first | apply Kd.R_alloc | apply Kd.R_drewN | apply Kd.R_drew)); exact HO_17.out)⟩; have n1_ : Aside0 (Kd.V (Kd.int .i64) 3 wc w.heap.size (fun k_ => (P2_ k_ ∨ w.heap.size ≤ k_) ∧ some k_ ≠ (v212 : Value).ownBlock ∧ k_ ≠ gb208) u2 x2_4) := ⟨by rw [← hq_]; exact (by (with_reducible repeat (first | apply Kd.V_alloc | apply Kd.V_drewN | apply Kd.V_drew)); exact HO_2.out)⟩; have n2_ : Aside0 (wc.heap[gb208]? = some (.cells #[.int .u16 x209000_4] 90 (0, 0))) := ⟨by rw [← hq_]; exact (by (with_reducible repeat (first | refine blk_drewN ?_ _ | refine blk_drew ?_ | refine blk_alloc ?_ _)); exact BK208.out)⟩; have n3_ : Aside0 (Below w.heap.size w wc) := ⟨by rw [← hq_]; exact (by repeat (first | (with_reducible first | exact HB.out | apply below_alloc | apply pw_below_drewN | apply below_drew1 | refine below_set ?_ GE208.out) | exact HB.out))⟩; clear HO_17 HO_2 BK208 HB hq_; have HO_17 := n0_; have HO_2 := n1_; have BK208 := n2_; have HB := n3_; clear n0_ n1_ n2_ n3_)); have HI208 := Aside0.mk (show IsS90 w _ gb208 x209000_4 from ⟨BK208.out, GE208.out⟩)) | ((with_reducible refine gate_callee (f := 67) rfl ?_); refine goesL_ (some 109) rfl rfl Try.func67 (by kernel_rfl) rfl #[.pointer (some ⟨gb208, 0, none⟩)] rfl (by (try simp only [List.map_toArray, List.map_cons, List.map_nil]); first | done | rfl | (simp only [List.length_drop, List.length_take]; rfl)) ?_; (with_reducible refine (gain_dice_throw.calls gb208 x209000_4 false t218 w _ ?side1 ?side2 A35.out).mono ?_); (case side1 => repeat (first | (with_reducible first | exact HI208.out | apply IsS90.alloc | apply IsS90.drewN | apply IsS90.drew | apply IsS90.set_0) | exact HI208.out)); (case side2 => repeat (first | (with_reducible first | exact HB.out | apply below_alloc | apply pw_below_drewN | apply below_drew1 | refine below_set ?_ (IsS90.ge HI208.out)) | exact HB.out)); rintro e w48 ⟨rfl, hi, hb, hk⟩; refine ⟨_, rfl, ?_⟩; have n0_ := Aside0.mk (Kd.V_mono (Kd.V_keep (Kd.V_mono (ok := fun k_ => (((P2_ k_ ∨ w.heap.size ≤ k_)) ∧ (some k_ ≠ (v212 : Value).ownBlock ∧ k_ ≠ gb208))) (by (with_reducible repeat (first | apply Kd.V_alloc | apply Kd.V_drewN | apply Kd.V_drew)); exact HO_2.out) (fun k_ hk_ => (⟨hk_, hk_.2.2⟩ : _ ∧ k_ ≠ gb208))) hk (fun _ h => h.2)) (fun _ h => h.1)); have n1_ := Aside0.mk (Kd.R_mono (Kd.R_keep (IsS90.apart (show IsS90 w _ gb208 x209000_4 from by repeat (first | (with_reducible first | exact HI208.out | apply IsS90.alloc | apply IsS90.drewN | apply IsS90.drew | apply IsS90.set_0) | exact HI208.out)) (by (with_reducible repeat (first | apply Kd.R_alloc | apply Kd.R_drewN | apply Kd.R_drew)); exact HO_17.out) (by decide)) hk (fun _ h => h.2)) (fun _ h => h.1)); have n2_ := Aside0.mk (hb); have n3_ := Aside0.mk (hi.1); clear HO_2; clear HO_17; clear HB; clear BK208; clear HI208; have HO_2 := n0_; have HO_17 := n1_; have HB := n2_; have BK208 := n3_; clear n0_ n1_ n2_ n3_; (try clear hb); (try clear hb2); (try clear hk); (try clear hi)) | ((with_reducible refine gate_callee (f := 65) rfl ?_); refine goesL_ (some 115) rfl rfl Try.func65 (by kernel_rfl) rfl #[.int .i64 t216] rfl (by (try simp only [List.map_toArray, List.map_cons, List.map_nil]); first | done | rfl | (simp only [List.length_drop, List.length_take]; rfl)) ?_; (with_reducible refine (fix_Sat32.calls t216 t221 _ A44.out).mono ?_); rintro e w' ⟨rfl, ⟨nd, rfl⟩⟩; refine ⟨_, rfl, ?_⟩; (try (rw [drewN_self w48]; generalize hq_ : World.drewN w48 _ = w48; have n0_ : Aside0 (Kd.R (Kd.int .i32) 21 w48 w.heap.size (fun k_ => (w.heap.size ≤ k_)) v212 x17_4) := ⟨by rw [← hq_]; exact (by (with_reducible repeat (first | apply Kd.R_alloc | apply Kd.R_drewN | apply Kd.R_drew)); exact HO_17.out)⟩; have n1_ : Aside0 (Kd.V (Kd.int .i64) 3 w48 w.heap.size (fun k_ => (P2_ k_ ∨ w.heap.size ≤ k_) ∧ some k_ ≠ (v212 : Value).ownBlock ∧ k_ ≠ gb208) u2 x2_4) := ⟨by rw [← hq_]; exact (by (with_reducible repeat (first | apply Kd.V_alloc | apply Kd.V_drewN | apply Kd.V_drew)); exact HO_2.out)⟩; have n2_ : Aside0 (w48.heap[gb208]? = some (.cells #[.int .u16 t218] 90 (0, 0))) := ⟨by rw [← hq_]; exact (by (with_reducible repeat (first | refine blk_drewN ?_ _ | refine blk_drew ?_ | refine blk_alloc ?_ _)); exact BK208.out)⟩; have n3_ : Aside0 (Below w.heap.size w w48) := ⟨by rw [← hq_]; exact (by repeat (first | (with_reducible first | exact HB.out | apply below_alloc | apply pw_below_drewN | apply below_drew1 | refine below_set ?_ GE208.out) | exact HB.out))⟩; clear HO_17 HO_2 BK208 HB hq_; have HO_17 := n0_; have HO_2 := n1_; have BK208 := n2_; have HB := n3_; clear n0_ n1_ n2_ n3_)); have p47 : 0 ≤ (x61_4 : Int) := of_decide_eq_true (by first | (with_reducible assumption) | assumption); have q47 : (x61_4 : Int) < ((x17_4.length : Int) : Int) := of_decide_eq_true (by first | (with_reducible assumption) | assumption); obtain ⟨go47, co47, eo47, gb47, gl47, cl47, HG47⟩ := Kd.R_form HO_17.out (by omega); (first | cases eo47 | (injection eo47 with ea_ en_ ec_; (first | subst ea_ | (injection ea_ with ea_; subst ea_)); subst ec_; clear en_)); have GB47 := Aside0.mk gb47; have GG47 := Aside0.mk HG47; clear gb47 gl47 HG47; obtain ⟨hx47_0, hf47_0⟩ := Kd.R_celln 0 HO_17.out (x61_4 : Int) p47 q47; replace p47 := eq_true p47; replace q47 := eq_true q47; obtain ⟨hy49_, hz49_⟩ := Kd.R_celln 0 HO_17.out (x61_4 : Int) (of_decide_eq_true (by first | (with_reducible assumption) | assumption)) (of_decide_eq_true (by first | (with_reducible assumption) | assumption)); have HP49 := Kd.R_putg HO_17.out (x61_4 : Int) t221) | ((with_reducible refine gate_store (t := 21) (p := 116) rfl ?_); refine store_event (t := 21) (p := 116) (v := ?vo_w50) (w1 := (w48.setCell ⟨go47, (x61_4 : Int).toNat, none⟩ (.int .i32 t221))) ?hg ?ho ?hn ?hr ?_; (case ho => rfl); (case hg => rfl); (case hn => rfl); (case hr => first | (go_simp; done) | (go_simp; rfl)); intro w50 hw; have hg : w48.grownBy w50 (some go47) := (by rw [hw]; exact HP49.2); have hp_ : Kd.R (Kd.int .i32) 21 w50 w.heap.size (fun k_ => (w.heap.size ≤ k_)) (.slice (some ⟨go47, 0, none⟩) x17_4.length co47) y222 := (by rw [hw, Ny222.out]; exact HP49.1); clear HP49; have n0_ := Aside0.mk (Kd.V_afterv (v := (.slice (some ⟨go47, 0, none⟩) x17_4.length co47)) (v1 := (.slice (some ⟨go47, 0, none⟩) x17_4.length co47)) (ok := (fun k_ => (P2_ k_ ∨ w.heap.size ≤ k_) ∧ k_ ≠ gb208)) (by (with_reducible repeat (first | apply Kd.V_alloc | apply Kd.V_drewN | apply Kd.V_drew)); exact Kd.V_mono HO_2.out (fun _ hk => ⟨⟨hk.1, hk.2.2⟩, hk.2.1⟩)) hg (.inl rfl)); have n1_ := Aside0.mk (hp_); have n2_ := Aside0.mk (blk_grown (g := gb208) (o := .cells #[.int .u16 t218] 90 (0, 0)) (by (with_reducible repeat (first | refine blk_drewN ?_ _ | refine blk_drew ?_ | refine blk_alloc ?_ _)); exact BK208.out) hg (Kd.R_ne HO_17.out BK208.out (by decide))); have n3_ := Aside0.mk ((by rw [hw]; exact below_set (HB.out) GB47.out : Below w.heap.size w w50)); clear HO_2; clear HO_17; clear BK208; clear HB; have HO_2 := n0_; have HO_17 := n1_; have BK208 := n2_; have HB := n3_; clear n0_ n1_ n2_ n3_; clear hg hw hp_))
                                              go_roundg kj29
                                              case measure => have := HJ6.out; have := HJ9.out; have := HK3.out; have := HK4.out; have := HJ29.out; omega
                                              case rel => exact ⟨(x2_4), (y222), (wrap64 (x61_4 + 1)), (t218), (by first | rfl | (simp; done) | (simp [*]; done)), H', ⟨by have := HJ6.out; have := HJ9.out; have := HK3.out; have := HK4.out; have := HJ29.out; omega⟩, ⟨by (with_reducible repeat (first | apply Kd.V_alloc | apply Kd.V_drewN | apply Kd.V_drew)); exact Kd.V_mono HO_2.out (fun _ hk => ⟨hk.1.1, ⟨hk.2, hk.1.2⟩⟩)⟩, ⟨by (with_reducible repeat (first | apply Kd.R_alloc | apply Kd.R_drewN | apply Kd.R_drew)); exact HO_17.out⟩, ⟨by (with_reducible repeat (first | refine blk_drewN ?_ _ | refine blk_drew ?_ | refine blk_alloc ?_ _)); exact BK208.out⟩, ⟨by repeat (first | (with_reducible first | exact HB.out | apply below_alloc | apply pw_below_drewN | apply below_drew1 | refine below_set ?_ GE208.out) | exact HB.out)⟩⟩
                                            · rw [if_neg c46] at H
                                              exact absurd H (by simp)
                                          · rw [if_neg c45] at H
                                            exact absurd H (by simp)
                                      · replace c33 := Bool.eq_false_iff.mpr c33
                                        subst c33
                                        have H1 : (gain_Restore.l1 kj29 x2_4 a3 a4 t205 x17_4 l0 (l0.length : Int) (wrap64 (x61_4 + 1)) x209000_4) = some (r1, r2) := by rw [if_neg (show ¬ (false = true) by decide)] at H; exact H
                                        clear H
                                        have H := H1
                                        clear H1
                                        have H' := Aside0.mk H
                                        clear H
                                        go_wp2
                                        go_roundg kj29
                                        case measure => have := HJ6.out; have := HJ9.out; have := HK3.out; have := HK4.out; have := HJ29.out; omega
                                        case rel => exact ⟨(x2_4), (x17_4), (wrap64 (x61_4 + 1)), (x209000_4), (by first | rfl | (simp; done) | (simp [*]; done)), H', ⟨by have := HJ6.out; have := HJ9.out; have := HK3.out; have := HK4.out; have := HJ29.out; omega⟩, ⟨by (with_reducible repeat (first | apply Kd.V_alloc | apply Kd.V_drewN | apply Kd.V_drew)); exact HO_2.out⟩, ⟨by (with_reducible repeat (first | apply Kd.R_alloc | apply Kd.R_drewN | apply Kd.R_drew)); exact HO_17.out⟩, ⟨by (with_reducible repeat (first | refine blk_drewN ?_ _ | refine blk_drew ?_ | refine blk_alloc ?_ _)); exact BK208.out⟩, ⟨by repeat (first | (with_reducible first | exact HB.out | apply below_alloc | apply pw_below_drewN | apply below_drew1 | refine below_set ?_ GE208.out) | exact HB.out)⟩⟩
                                · rw [if_neg c29] at H
                                  have c29b0 : ((rd l0 x61_4) == 0) = false := beq_eq_false_iff_ne.mpr c29
                                  have c29b1 : ((rd l0 x61_4) != 0) = true := bne_iff_ne.mpr c29
                                  by_cases c51 : (x2_4.length : Int) > 0
                                  · rw [if_pos c51] at H
                                    have c51b0 : decide (0 < (x2_4.length : Int)) = true := decide_eq_true c51
                                    have c51b1 : decide (0 < x2_4.length) = true := decide_eq_true (by omega)
                                    clear c51
                                    by_cases c52 : 0 < (x2_4.length : Int)
                                    · rw [if_pos c52] at H
                                      have c52b0 : decide (0 < (x2_4.length : Int)) = true := decide_eq_true c52
                                      have c52b1 : decide (0 < x2_4.length) = true := decide_eq_true (by omega)
                                      clear c52
                                      by_cases c53 : 1 ≤ (x2_4.length : Int)
                                      · rw [if_pos c53] at H
                                        have c53b0 := eq_true c53
                                        have c53b1 : decide (1 ≤ (x2_4.length : Int)) = true := decide_eq_true c53
                                        clear c53
                                        obtain ⟨y224, hy224⟩ : ∃ y_ : List Int, y_ = (x2_4.drop 1) := ⟨_, rfl⟩
                                        replace H : ((fix_Round.f (wrap64 ((wrap64 (t215 * t205)) + (wrap64 ((wrap64 ((wrap64 (2 * (rd x2_4 0))) - 1)) * (wrap64 (Int.tdiv t205 4)))))) 16).bind fun t229 => ((gain_signed_int.f t229 (rd l0 x61_4)).bind fun t230 => ((fix_Sat32.f t230).bind fun t231 => (if x61_4 < (x17_4.length : Int) then (gain_Restore.l1 k4 y224 a3 a4 t205 (x17_4.set (x61_4 : Int).toNat t231) l0 (l0.length : Int) (wrap64 (x61_4 + 1)) x209000_4) else (none))))) = some (r1, r2) := by first | (rw [hy224]; with_reducible exact H) | (have H2_ := (Option.bind_some _ _).symm.trans H; rw [hy224]; with_reducible exact H2_) | (have H2_ := (Option.bind_some _ _).symm.trans H; with_reducible exact H2_) | with_reducible exact H | (rw [hy224]; exact H) | exact H
                                        have Ny224 := Aside0.mk hy224
                                        clear hy224
                                        replace H := Option.bind_eq_some_iff.mp H
                                        obtain ⟨t229, A540, H⟩ := H
                                        replace H : ((gain_signed_int.f t229 (rd l0 x61_4)).bind fun t230 => ((fix_Sat32.f t230).bind fun t231 => (if x61_4 < (x17_4.length : Int) then (gain_Restore.l1 k4 y224 a3 a4 t205 (x17_4.set (x61_4 : Int).toNat t231) l0 (l0.length : Int) (wrap64 (x61_4 + 1)) x209000_4) else (none)))) = some (r1, r2) := H
                                        have A54 := Aside0.mk A540
                                        clear A540
                                        replace H := Option.bind_eq_some_iff.mp H
                                        obtain ⟨t230, A550, H⟩ := H
                                        replace H : ((fix_Sat32.f t230).bind fun t231 => (if x61_4 < (x17_4.length : Int) then (gain_Restore.l1 k4 y224 a3 a4 t205 (x17_4.set (x61_4 : Int).toNat t231) l0 (l0.length : Int) (wrap64 (x61_4 + 1)) x209000_4) else (none))) = some (r1, r2) := H
                                        have A55 := Aside0.mk A550
                                        clear A550
                                        replace H := Option.bind_eq_some_iff.mp H
                                        obtain ⟨t231, A560, H⟩ := H
                                        replace H : (if x61_4 < (x17_4.length : Int) then (gain_Restore.l1 k4 y224 a3 a4 t205 (x17_4.set (x61_4 : Int).toNat t231) l0 (l0.length : Int) (wrap64 (x61_4 + 1)) x209000_4) else (none)) = some (r1, r2) := H
                                        have A56 := Aside0.mk A560
                                        clear A560
                                        by_cases c57 : x61_4 < (x17_4.length : Int)
                                        · rw [if_pos c57] at H
                                          have c57b0 : decide (x61_4 < (x17_4.length : Int)) = true := decide_eq_true c57
                                          clear c57
                                          obtain ⟨y232, hy232⟩ : ∃ y_ : List Int, y_ = (x17_4.set (x61_4 : Int).toNat t231) := ⟨_, rfl⟩
                                          replace H : (gain_Restore.l1 k4 y224 a3 a4 t205 y232 l0 (l0.length : Int) (wrap64 (x61_4 + 1)) x209000_4) = some (r1, r2) := by first | (rw [hy232]; with_reducible exact H) | (have H2_ := (Option.bind_some _ _).symm.trans H; rw [hy232]; with_reducible exact H2_) | (have H2_ := (Option.bind_some _ _).symm.trans H; with_reducible exact H2_) | with_reducible exact H | (rw [hy232]; exact H) | exact H
                                          have Ny232 := Aside0.mk hy232
                                          clear hy232
                                          have H' := Aside0.mk H
                                          clear H
                                          have p214 : 0 ≤ (x61_4 : Int) := of_decide_eq_true (by first | (with_reducible assumption) | assumption)
                                          have q214 : x61_4 < (l0.length : Int) := of_decide_eq_true (by first | (with_reducible assumption) | assumption)
                                          obtain ⟨ad214, e214, hx214_0⟩ := Kd.at_int HR0.out x61_4 p214 q214
                                          cases e214
                                          replace hx214_0 := (HB.out.cell (World.block_lt_of_cell? w _ hx214_0)).trans hx214_0
                                          replace p214 := eq_true p214
                                          replace q214 := eq_true q214
                                          go_wp2_with (first | ((with_reducible refine gate_callee (f := 64) rfl ?_); refine goesL_ (some 67) rfl rfl Try.func64 (by kernel_rfl) rfl #[.int .i64 (rd l0 x61_4)] rfl (by (try simp only [List.map_toArray, List.map_cons, List.map_nil]); first | done | rfl | (simp only [List.length_drop, List.length_take]; rfl)) ?_; (with_reducible refine (gain_size_int.calls (rd l0 x61_4) t215 _ A28.out).mono ?_); rintro e w59 ⟨rfl, hb⟩; refine ⟨_, rfl, ?_⟩; have n0_ := Aside0.mk (Kd.V_below (by (with_reducible repeat (first | apply Kd.V_alloc | apply Kd.V_drewN | apply Kd.V_drew)); exact HO_2.out) hb); have n1_ := Aside0.mk (Kd.R_below (by (with_reducible repeat (first | apply Kd.R_alloc | apply Kd.R_drewN | apply Kd.R_drew)); exact HO_17.out) hb); have n2_ := Aside0.mk (blk_below (g := gb208) (o := .cells #[.int .u16 x209000_4] 90 (0, 0)) (by (with_reducible repeat (first | refine blk_drewN ?_ _ | refine blk_drew ?_ | refine blk_alloc ?_ _)); exact BK208.out) hb); have n3_ := Aside0.mk (below_step (by repeat (first | (with_reducible first | exact HB.out | apply below_alloc | apply pw_below_drewN | apply below_drew1 | refine below_set ?_ GE208.out) | exact HB.out)) hb); clear HO_2; clear HO_17; clear BK208; clear HB; have HO_2 := n0_; have HO_17 := n1_; have BK208 := n2_; have HB := n3_; clear n0_ n1_ n2_ n3_; (try clear hb); (try clear hb2); (try clear hk); (try clear hi); obtain ⟨Ao60, co60, eo60⟩ := Kd.V_slice HO_2.out; subst eo60; have p223 : 0 ≤ (0 : Int) := (by omega); have q223 : 0 < (x2_4.length : Int) := of_decide_eq_true (by first | (with_reducible assumption) | assumption); obtain ⟨ad223, e223, hx223_0⟩ := Kd.at_int (Kd.V_reads' HO_2.out).2.2 0 p223 q223; cases e223; have qi223 : (0 < x2_4.length) = True := eq_true (by omega); (try rw [show ((0 : Int)).toNat = 0 from rfl] at hx223_0); (try rw [Addr.add_zero'] at hx223_0); replace p223 := eq_true p223; replace q223 := eq_true q223; have q61 : (1 : Int) ≤ ((x2_4.length : Int) : Int) := of_decide_eq_true (by first | (with_reducible assumption) | assumption); obtain ⟨i061, hi061, _, hsz61, _⟩ := info_parts info3; have hroom61 : x2_4.length ≤ co60 := (Kd.V_reads' HO_2.out).2.1; have hC61 : Kd.F (Kd.int .i64) _ _ (some ad223) x2_4.length x2_4 := (Kd.V_at (base := w.heap.size) HO_2.out).2.2; have hcut61 := cut_from (P := Try.prog) 29 3 .i64 Try.underlying29 hi061 1 hsz61 (some ad223) x2_4.length co60 1 (by omega) q61; have hr61 := Kd.F_cut (m := (1 : Int).toNat) (c := co60) hC61 (by omega) hroom61; obtain ⟨A61, hA61⟩ : ∃ A1, A1 = (if co60 = (1 : Int).toNat then (some ad223) else ((some ad223) : Option Addr).map (·.add ((1 : Int).toNat * 1))) := ⟨_, rfl⟩; obtain ⟨c61, hc61⟩ : ∃ c1, c1 = co60 - (1 : Int).toNat := ⟨_, rfl⟩; have hy61 : y224.length = x2_4.length - (1 : Int).toNat := (by rw [Ny224.out, List.length_drop] <;> omega); rw [show (x2_4).drop (1 : Int).toNat = y224 from Ny224.out.symm] at hr61; replace hr61 : Kd.F (Kd.int .i64) _ _ A61 y224.length y224 := (by rw [hA61]; exact hr61); rw [← hy61, ← hA61, ← hc61] at hcut61; have HO228 := Aside0.mk (show Kd.V (Kd.int .i64) 3 _ w.heap.size _ (.slice A61 y224.length c61) y224 from Kd.V_mk (by rw [hy61, hc61]; exact Nat.sub_le_sub_right hroom61 _) hr61); have HC228 := Aside0.mk (show y224.length ≤ c61 from by rw [hy61, hc61]; exact Nat.sub_le_sub_right hroom61 _); clear hr61 hC61 hroom61 hi061 hsz61 hc61; have KY61 := Aside0.mk hy61; have KA61 := Aside0.mk hA61; clear hy61 hA61; replace q61 := eq_true q61) | ((with_reducible refine gate_callee (f := 51) rfl ?_); refine goesL_ (some 91) rfl rfl Try.func51 (by kernel_rfl) rfl #[.int .i64 (wrap64 ((wrap64 (t215 * t205)) + (wrap64 ((wrap64 ((wrap64 (2 * (rd x2_4 0))) - 1)) * (wrap64 (Int.tdiv t205 4)))))), .int .i64 16] rfl (by (try simp only [List.map_toArray, List.map_cons, List.map_nil]); first | done | rfl | (simp only [List.length_drop, List.length_take]; rfl)) ?_; (with_reducible refine (fix_Round.calls (wrap64 ((wrap64 (t215 * t205)) + (wrap64 ((wrap64 ((wrap64 (2 * (rd x2_4 0))) - 1)) * (wrap64 (Int.tdiv t205 4)))))) 16 t229 _ A54.out).mono ?_); rintro e w' ⟨rfl, ⟨nd, rfl⟩⟩; refine ⟨_, rfl, ?_⟩; (try (rw [drewN_self w59]; generalize hq_ : World.drewN w59 _ = w59; have n0_ : Aside0 (Kd.V (Kd.int .i64) 3 w59 w.heap.size (fun k_ => (P2_ k_ ∨ w.heap.size ≤ k_) ∧ some k_ ≠ (v212 : Value).ownBlock ∧ k_ ≠ gb208) (.slice A61 y224.length c61) y224) := ⟨by rw [← hq_]; exact (by (with_reducible repeat (first | apply Kd.V_alloc | apply Kd.V_drewN | apply Kd.V_drew)); exact HO228.out)⟩; have n1_ : Aside0 (Kd.R (Kd.int .i32) 21 w59 w.heap.size (fun k_ => (w.heap.size ≤ k_)) v212 x17_4) := ⟨by rw [← hq_]; exact (by (with_reducible repeat (first | apply Kd.R_alloc | apply Kd.R_drewN | apply Kd.R_drew)); exact HO_17.out)⟩; have n2_ : Aside0 (Kd.V (Kd.int .i64) 3 w59 w.heap.size (fun k_ => (P2_ k_ ∨ w.heap.size ≤ k_) ∧ some k_ ≠ (v212 : Value).ownBlock ∧ k_ ≠ gb208) (.slice (some ad223) x2_4.length co60) x2_4) := ⟨by rw [← hq_]; exact (by (with_reducible repeat (first | apply Kd.V_alloc | apply Kd.V_drewN | apply Kd.V_drew)); exact HO_2.out)⟩; have n3_ : Aside0 (w59.heap[gb208]? = some (.cells #[.int .u16 x209000_4] 90 (0, 0))) := ⟨by rw [← hq_]; exact (by (with_reducible repeat (first | refine blk_drewN ?_ _ | refine blk_drew ?_ | refine blk_alloc ?_ _)); exact BK208.out)⟩; have n4_ : Aside0 (Below w.heap.size w w59) := ⟨by rw [← hq_]; exact (by repeat (first | (with_reducible first | exact HB.out | apply below_alloc | apply pw_below_drewN | apply below_drew1 | refine below_set ?_ GE208.out) | exact HB.out))⟩; clear HO228 HO_17 HO_2 BK208 HB hq_; have HO228 := n0_; have HO_17 := n1_; have HO_2 := n2_; have BK208 := n3_; have HB := n4_; clear n0_ n1_ n2_ n3_ n4_))) | ((with_reducible refine gate_callee (f := 66) rfl ?_); refine goesL_ (some 93) rfl rfl Try.func66 (by kernel_rfl) rfl #[.int .i64 t229, .int .i64 (rd l0 x61_4)] rfl (by (try simp only [List.map_toArray, List.map_cons, List.map_nil]); first | done | rfl | (simp only [List.length_drop, List.length_take]; rfl)) ?_; (with_reducible refine (gain_signed_int.calls t229 (rd l0 x61_4) t230 _ A55.out).mono ?_); rintro e w' ⟨rfl, ⟨nd, rfl⟩⟩; refine ⟨_, rfl, ?_⟩; (try (rw [drewN_self w59]; generalize hq_ : World.drewN w59 _ = w59; have n0_ : Aside0 (Kd.V (Kd.int .i64) 3 w59 w.heap.size (fun k_ => (P2_ k_ ∨ w.heap.size ≤ k_) ∧ some k_ ≠ (v212 : Value).ownBlock ∧ k_ ≠ gb208) (.slice A61 y224.length c61) y224) := ⟨by rw [← hq_]; exact (by (with_reducible repeat (first | apply Kd.V_alloc | apply Kd.V_drewN | apply Kd.V_drew)); exact HO228.out)⟩; have n1_ : Aside0 (Kd.R (Kd.int .i32) 21 w59 w.heap.size (fun k_ => (w.heap.size ≤ k_)) v212 x17_4) := ⟨by rw [← hq_]; exact (by (with_reducible repeat (first | apply Kd.R_alloc | apply Kd.R_drewN | apply Kd.R_drew)); exact HO_17.out)⟩; have n2_ : Aside0 (Kd.V (Kd.int .i64) 3 w59 w.heap.size (fun k_ => (P2_ k_ ∨ w.heap.size ≤ k_) ∧ some k_ ≠ (v212 : Value).ownBlock ∧ k_ ≠ gb208) (.slice (some ad223) x2_4.length co60) x2_4) := ⟨by rw [← hq_]; exact (by (with_reducible repeat (first | apply Kd.V_alloc | apply Kd.V_drewN | apply Kd.V_drew)); exact HO_2.out)⟩; have n3_ : Aside0 (w59.heap[gb208]? = some (.cells #[.int .u16 x209000_4] 90 (0, 0))) := ⟨by rw [← hq_]; exact (by (with_reducible repeat (first | refine blk_drewN ?_ _ | refine blk_drew ?_ | refine blk_alloc ?_ _)); exact BK208.out)⟩; have n4_ : Aside0 (Below w.heap.size w w59) := ⟨by rw [← hq_]; exact (by repeat (first | (with_reducible first | exact HB.out | apply below_alloc | apply pw_below_drewN | apply below_drew1 | refine below_set ?_ GE208.out) | exact HB.out))⟩; clear HO228 HO_17 HO_2 BK208 HB hq_; have HO228 := n0_; have HO_17 := n1_; have HO_2 := n2_; have BK208 := n3_; have HB := n4_; clear n0_ n1_ n2_ n3_ n4_))) | ((with_reducible refine gate_callee (f := 65) rfl ?_); refine goesL_ (some 94) rfl rfl Try.func65 (by kernel_rfl) rfl #[.int .i64 t230] rfl (by (try simp only [List.map_toArray, List.map_cons, List.map_nil]); first | done | rfl | (simp only [List.length_drop, List.length_take]; rfl)) ?_; (with_reducible refine (fix_Sat32.calls t230 t231 _ A56.out).mono ?_); rintro e w' ⟨rfl, ⟨nd, rfl⟩⟩; refine ⟨_, rfl, ?_⟩; (try (rw [drewN_self w59]; generalize hq_ : World.drewN w59 _ = w59; have n0_ : Aside0 (Kd.V (Kd.int .i64) 3 w59 w.heap.size (fun k_ => (P2_ k_ ∨ w.heap.size ≤ k_) ∧ some k_ ≠ (v212 : Value).ownBlock ∧ k_ ≠ gb208) (.slice A61 y224.length c61) y224) := ⟨by rw [← hq_]; exact (by (with_reducible repeat (first | apply Kd.V_alloc | apply Kd.V_drewN | apply Kd.V_drew)); exact HO228.out)⟩; have n1_ : Aside0 (Kd.R (Kd.int .i32) 21 w59 w.heap.size (fun k_ => (w.heap.size ≤ k_)) v212 x17_4) := ⟨by rw [← hq_]; exact (by (with_reducible repeat (first | apply Kd.R_alloc | apply Kd.R_drewN | apply Kd.R_drew)); exact HO_17.out)⟩; have n2_ : Aside0 (Kd.V (Kd.int .i64) 3 w59 w.heap.size (fun k_ => (P2_ k_ ∨ w.heap.size ≤ k_) ∧ some k_ ≠ (v212 : Value).ownBlock ∧ k_ ≠ gb208) (.slice (some ad223) x2_4.length co60) x2_4) := ⟨by rw [← hq_]; exact (by (with_reducible repeat (first | apply Kd.V_alloc | apply Kd.V_drewN | apply Kd.V_drew)); exact HO_2.out)⟩; have n3_ : Aside0 (w59.heap[gb208]? = some (.cells #[.int .u16 x209000_4] 90 (0, 0))) := ⟨by rw [← hq_]; exact (by (with_reducible repeat (first | refine blk_drewN ?_ _ | refine blk_drew ?_ | refine blk_alloc ?_ _)); exact BK208.out)⟩; have n4_ : Aside0 (Below w.heap.size w w59) := ⟨by rw [← hq_]; exact (by repeat (first | (with_reducible first | exact HB.out | apply below_alloc | apply pw_below_drewN | apply below_drew1 | refine below_set ?_ GE208.out) | exact HB.out))⟩; clear HO228 HO_17 HO_2 BK208 HB hq_; have HO228 := n0_; have HO_17 := n1_; have HO_2 := n2_; have BK208 := n3_; have HB := n4_; clear n0_ n1_ n2_ n3_ n4_)); have p58 : 0 ≤ (x61_4 : Int) := of_decide_eq_true (by first | (with_reducible assumption) | assumption); have q58 : (x61_4 : Int) < ((x17_4.length : Int) : Int) := of_decide_eq_true (by first | (with_reducible assumption) | assumption); obtain ⟨go58, co58, eo58, gb58, gl58, cl58, HG58⟩ := Kd.R_form HO_17.out (by omega); (first | cases eo58 | (injection eo58 with ea_ en_ ec_; (first | subst ea_ | (injection ea_ with ea_; subst ea_)); subst ec_; clear en_)); have GB58 := Aside0.mk gb58; have GG58 := Aside0.mk HG58; clear gb58 gl58 HG58; obtain ⟨hx58_0, hf58_0⟩ := Kd.R_celln 0 HO_17.out (x61_4 : Int) p58 q58; replace p58 := eq_true p58; replace q58 := eq_true q58; obtain ⟨hy62_, hz62_⟩ := Kd.R_celln 0 HO_17.out (x61_4 : Int) (of_decide_eq_true (by first | (with_reducible assumption) | assumption)) (of_decide_eq_true (by first | (with_reducible assumption) | assumption)); have HP62 := Kd.R_putg HO_17.out (x61_4 : Int) t231) | ((with_reducible refine gate_store (t := 21) (p := 95) rfl ?_); refine store_event (t := 21) (p := 95) (v := ?vo_w63) (w1 := (w59.setCell ⟨go58, (x61_4 : Int).toNat, none⟩ (.int .i32 t231))) ?hg ?ho ?hn ?hr ?_; (case ho => rfl); (case hg => rfl); (case hn => rfl); (case hr => first | (go_simp; done) | (go_simp; rfl)); intro w63 hw; have hg : w59.grownBy w63 (some go58) := (by rw [hw]; exact HP62.2); have hp_ : Kd.R (Kd.int .i32) 21 w63 w.heap.size (fun k_ => (w.heap.size ≤ k_)) (.slice (some ⟨go58, 0, none⟩) x17_4.length co58) y232 := (by rw [hw, Ny232.out]; exact HP62.1); clear HP62; have n0_ := Aside0.mk (Kd.V_afterv (v := (.slice (some ⟨go58, 0, none⟩) x17_4.length co58)) (v1 := (.slice (some ⟨go58, 0, none⟩) x17_4.length co58)) (ok := (fun k_ => (P2_ k_ ∨ w.heap.size ≤ k_) ∧ k_ ≠ gb208)) (by (with_reducible repeat (first | apply Kd.V_alloc | apply Kd.V_drewN | apply Kd.V_drew)); exact Kd.V_mono HO_2.out (fun _ hk => ⟨⟨hk.1, hk.2.2⟩, hk.2.1⟩)) hg (.inl rfl)); have n1_ := Aside0.mk (hp_); have n2_ := Aside0.mk (blk_grown (g := gb208) (o := .cells #[.int .u16 x209000_4] 90 (0, 0)) (by (with_reducible repeat (first | refine blk_drewN ?_ _ | refine blk_drew ?_ | refine blk_alloc ?_ _)); exact BK208.out) hg (Kd.R_ne HO_17.out BK208.out (by decide))); have n3_ := Aside0.mk (Kd.V_afterv (v := (.slice (some ⟨go58, 0, none⟩) x17_4.length co58)) (v1 := (.slice (some ⟨go58, 0, none⟩) x17_4.length co58)) (ok := (fun k_ => (P2_ k_ ∨ w.heap.size ≤ k_) ∧ k_ ≠ gb208)) (by (with_reducible repeat (first | apply Kd.V_alloc | apply Kd.V_drewN | apply Kd.V_drew)); exact Kd.V_mono HO228.out (fun _ hk => ⟨⟨hk.1, hk.2.2⟩, hk.2.1⟩)) hg (.inl rfl)); have n4_ := Aside0.mk ((by rw [hw]; exact below_set (HB.out) GB58.out : Below w.heap.size w w63)); clear HO_2; clear HO_17; clear BK208; clear HO228; clear HB; have HO_2 := n0_; have HO_17 := n1_; have BK208 := n2_; have HO228 := n3_; have HB := n4_; clear n0_ n1_ n2_ n3_ n4_; clear hg hw hp_))
                                          go_roundg k4
                                          case measure => have := HJ6.out; have := HJ9.out; have := HK3.out; have := HK4.out; omega
                                          case rel => exact ⟨(y224), (y232), (wrap64 (x61_4 + 1)), (x209000_4), (by first | rfl | (simp; done) | (simp [*]; done)), H', ⟨by have := HJ6.out; have := HJ9.out; have := HK3.out; have := HK4.out; omega⟩, ⟨by (with_reducible repeat (first | apply Kd.V_alloc | apply Kd.V_drewN | apply Kd.V_drew)); exact Kd.V_mono HO228.out (fun _ hk => ⟨hk.1.1, ⟨hk.2, hk.1.2⟩⟩)⟩, ⟨by (with_reducible repeat (first | apply Kd.R_alloc | apply Kd.R_drewN | apply Kd.R_drew)); exact HO_17.out⟩, ⟨by (with_reducible repeat (first | refine blk_drewN ?_ _ | refine blk_drew ?_ | refine blk_alloc ?_ _)); exact BK208.out⟩, ⟨by repeat (first | (with_reducible first | exact HB.out | apply below_alloc | apply pw_below_drewN | apply below_drew1 | refine below_set ?_ GE208.out) | exact HB.out)⟩⟩
                                        · rw [if_neg c57] at H
                                          exact absurd H (by simp)
                                      · rw [if_neg c53] at H
                                        exact absurd H (by simp)
                                    · rw [if_neg c52] at H
                                      exact absurd H (by simp)
                                  · rw [if_neg c51] at H
                                    have c51b0 : decide (0 < (x2_4.length : Int)) = false := decide_eq_false c51
                                    have c51b1 : decide (0 < x2_4.length) = false := decide_eq_false (by omega)
                                    clear c51
                                    replace H := Option.bind_eq_some_iff.mp H
                                    obtain ⟨t233, A640, H⟩ := H
                                    replace H : ((gain_signed_int.f t233 (rd l0 x61_4)).bind fun t234 => ((fix_Sat32.f t234).bind fun t235 => (if x61_4 < (x17_4.length : Int) then (gain_Restore.l1 k4 x2_4 a3 a4 t205 (x17_4.set (x61_4 : Int).toNat t235) l0 (l0.length : Int) (wrap64 (x61_4 + 1)) x209000_4) else (none)))) = some (r1, r2) := H
                                    have A64 := Aside0.mk A640
                                    clear A640
                                    replace H := Option.bind_eq_some_iff.mp H
                                    obtain ⟨t234, A650, H⟩ := H
                                    replace H : ((fix_Sat32.f t234).bind fun t235 => (if x61_4 < (x17_4.length : Int) then (gain_Restore.l1 k4 x2_4 a3 a4 t205 (x17_4.set (x61_4 : Int).toNat t235) l0 (l0.length : Int) (wrap64 (x61_4 + 1)) x209000_4) else (none))) = some (r1, r2) := H
                                    have A65 := Aside0.mk A650
                                    clear A650
                                    replace H := Option.bind_eq_some_iff.mp H
                                    obtain ⟨t235, A660, H⟩ := H
                                    replace H : (if x61_4 < (x17_4.length : Int) then (gain_Restore.l1 k4 x2_4 a3 a4 t205 (x17_4.set (x61_4 : Int).toNat t235) l0 (l0.length : Int) (wrap64 (x61_4 + 1)) x209000_4) else (none)) = some (r1, r2) := H
                                    have A66 := Aside0.mk A660
                                    clear A660
                                    by_cases c67 : x61_4 < (x17_4.length : Int)
                                    · rw [if_pos c67] at H
                                      have c67b0 : decide (x61_4 < (x17_4.length : Int)) = true := decide_eq_true c67
                                      clear c67
                                      obtain ⟨y236, hy236⟩ : ∃ y_ : List Int, y_ = (x17_4.set (x61_4 : Int).toNat t235) := ⟨_, rfl⟩
                                      replace H : (gain_Restore.l1 k4 x2_4 a3 a4 t205 y236 l0 (l0.length : Int) (wrap64 (x61_4 + 1)) x209000_4) = some (r1, r2) := by first | (rw [hy236]; with_reducible exact H) | (have H2_ := (Option.bind_some _ _).symm.trans H; rw [hy236]; with_reducible exact H2_) | (have H2_ := (Option.bind_some _ _).symm.trans H; with_reducible exact H2_) | with_reducible exact H | (rw [hy236]; exact H) | exact H
                                      have Ny236 := Aside0.mk hy236
                                      clear hy236
                                      have H' := Aside0.mk H
                                      clear H
                                      have p214 : 0 ≤ (x61_4 : Int) := of_decide_eq_true (by first | (with_reducible assumption) | assumption)
                                      have q214 : x61_4 < (l0.length : Int) := of_decide_eq_true (by first | (with_reducible assumption) | assumption)
                                      obtain ⟨ad214, e214, hx214_0⟩ := Kd.at_int HR0.out x61_4 p214 q214
                                      cases e214
                                      replace hx214_0 := (HB.out.cell (World.block_lt_of_cell? w _ hx214_0)).trans hx214_0
                                      replace p214 := eq_true p214
                                      replace q214 := eq_true q214
                                      go_wp2_with (first | ((with_reducible refine gate_callee (f := 64) rfl ?_); refine goesL_ (some 67) rfl rfl Try.func64 (by kernel_rfl) rfl #[.int .i64 (rd l0 x61_4)] rfl (by (try simp only [List.map_toArray, List.map_cons, List.map_nil]); first | done | rfl | (simp only [List.length_drop, List.length_take]; rfl)) ?_; (with_reducible refine (gain_size_int.calls (rd l0 x61_4) t215 _ A28.out).mono ?_); rintro e w69 ⟨rfl, hb⟩; refine ⟨_, rfl, ?_⟩; have n0_ := Aside0.mk (Kd.V_below (by (with_reducible repeat (first | apply Kd.V_alloc | apply Kd.V_drewN | apply Kd.V_drew)); exact HO_2.out) hb); have n1_ := Aside0.mk (Kd.R_below (by (with_reducible repeat (first | apply Kd.R_alloc | apply Kd.R_drewN | apply Kd.R_drew)); exact HO_17.out) hb); have n2_ := Aside0.mk (blk_below (g := gb208) (o := .cells #[.int .u16 x209000_4] 90 (0, 0)) (by (with_reducible repeat (first | refine blk_drewN ?_ _ | refine blk_drew ?_ | refine blk_alloc ?_ _)); exact BK208.out) hb); have n3_ := Aside0.mk (below_step (by repeat (first | (with_reducible first | exact HB.out | apply below_alloc | apply pw_below_drewN | apply below_drew1 | refine below_set ?_ GE208.out) | exact HB.out)) hb); clear HO_2; clear HO_17; clear BK208; clear HB; have HO_2 := n0_; have HO_17 := n1_; have BK208 := n2_; have HB := n3_; clear n0_ n1_ n2_ n3_; (try clear hb); (try clear hb2); (try clear hk); (try clear hi); obtain ⟨Ao70, co70, eo70⟩ := Kd.V_slice HO_2.out; subst eo70) | ((with_reducible refine gate_callee (f := 51) rfl ?_); refine goesL_ (some 91) rfl rfl Try.func51 (by kernel_rfl) rfl #[.int .i64 (wrap64 (t215 * t205)), .int .i64 16] rfl (by (try simp only [List.map_toArray, List.map_cons, List.map_nil]); first | done | rfl | (simp only [List.length_drop, List.length_take]; rfl)) ?_; (with_reducible refine (fix_Round.calls (wrap64 (t215 * t205)) 16 t233 _ A64.out).mono ?_); rintro e w' ⟨rfl, ⟨nd, rfl⟩⟩; refine ⟨_, rfl, ?_⟩; (try (rw [drewN_self w69]; generalize hq_ : World.drewN w69 _ = w69; have n0_ : Aside0 (Kd.R (Kd.int .i32) 21 w69 w.heap.size (fun k_ => (w.heap.size ≤ k_)) v212 x17_4) := ⟨by rw [← hq_]; exact (by (with_reducible repeat (first | apply Kd.R_alloc | apply Kd.R_drewN | apply Kd.R_drew)); exact HO_17.out)⟩; have n1_ : Aside0 (Kd.V (Kd.int .i64) 3 w69 w.heap.size (fun k_ => (P2_ k_ ∨ w.heap.size ≤ k_) ∧ some k_ ≠ (v212 : Value).ownBlock ∧ k_ ≠ gb208) (.slice Ao70 x2_4.length co70) x2_4) := ⟨by rw [← hq_]; exact (by (with_reducible repeat (first | apply Kd.V_alloc | apply Kd.V_drewN | apply Kd.V_drew)); exact HO_2.out)⟩; have n2_ : Aside0 (w69.heap[gb208]? = some (.cells #[.int .u16 x209000_4] 90 (0, 0))) := ⟨by rw [← hq_]; exact (by (with_reducible repeat (first | refine blk_drewN ?_ _ | refine blk_drew ?_ | refine blk_alloc ?_ _)); exact BK208.out)⟩; have n3_ : Aside0 (Below w.heap.size w w69) := ⟨by rw [← hq_]; exact (by repeat (first | (with_reducible first | exact HB.out | apply below_alloc | apply pw_below_drewN | apply below_drew1 | refine below_set ?_ GE208.out) | exact HB.out))⟩; clear HO_17 HO_2 BK208 HB hq_; have HO_17 := n0_; have HO_2 := n1_; have BK208 := n2_; have HB := n3_; clear n0_ n1_ n2_ n3_))) | ((with_reducible refine gate_callee (f := 66) rfl ?_); refine goesL_ (some 93) rfl rfl Try.func66 (by kernel_rfl) rfl #[.int .i64 t233, .int .i64 (rd l0 x61_4)] rfl (by (try simp only [List.map_toArray, List.map_cons, List.map_nil]); first | done | rfl | (simp only [List.length_drop, List.length_take]; rfl)) ?_; (with_reducible refine (gain_signed_int.calls t233 (rd l0 x61_4) t234 _ A65.out).mono ?_); rintro e w' ⟨rfl, ⟨nd, rfl⟩⟩; refine ⟨_, rfl, ?_⟩; (try (rw [drewN_self w69]; generalize hq_ : World.drewN w69 _ = w69; have n0_ : Aside0 (Kd.R (Kd.int .i32) 21 w69 w.heap.size (fun k_ => (w.heap.size ≤ k_)) v212 x17_4) := ⟨by rw [← hq_]; exact (by (with_reducible repeat (first | apply Kd.R_alloc | apply Kd.R_drewN | apply Kd.R_drew)); exact HO_17.out)⟩; have n1_ : Aside0 (Kd.V (Kd.int .i64) 3 w69 w.heap.size (fun k_ => (P2_ k_ ∨ w.heap.size ≤ k_) ∧ some k_ ≠ (v212 : Value).ownBlock ∧ k_ ≠ gb208) (.slice Ao70 x2_4.length co70) x2_4) := ⟨by rw [← hq_]; exact (by (with_reducible repeat (first | apply Kd.V_alloc | apply Kd.V_drewN | apply Kd.V_drew)); exact HO_2.out)⟩; have n2_ : Aside0 (w69.heap[gb208]? = some (.cells #[.int .u16 x209000_4] 90 (0, 0))) := ⟨by rw [← hq_]; exact (by (with_reducible repeat (first | refine blk_drewN ?_ _ | refine blk_drew ?_ | refine blk_alloc ?_ _)); exact BK208.out)⟩; have n3_ : Aside0 (Below w.heap.size w w69) := ⟨by rw [← hq_]; exact (by repeat (first | (with_reducible first | exact HB.out | apply below_alloc | apply pw_below_drewN | apply below_drew1 | refine below_set ?_ GE208.out) | exact HB.out))⟩; clear HO_17 HO_2 BK208 HB hq_; have HO_17 := n0_; have HO_2 := n1_; have BK208 := n2_; have HB := n3_; clear n0_ n1_ n2_ n3_))) | ((with_reducible refine gate_callee (f := 65) rfl ?_); refine goesL_ (some 94) rfl rfl Try.func65 (by kernel_rfl) rfl #[.int .i64 t234] rfl (by (try simp only [List.map_toArray, List.map_cons, List.map_nil]); first | done | rfl | (simp only [List.length_drop, List.length_take]; rfl)) ?_; (with_reducible refine (fix_Sat32.calls t234 t235 _ A66.out).mono ?_); rintro e w' ⟨rfl, ⟨nd, rfl⟩⟩; refine ⟨_, rfl, ?_⟩; (try (rw [drewN_self w69]; generalize hq_ : World.drewN w69 _ = w69; have n0_ : Aside0 (Kd.R (Kd.int .i32) 21 w69 w.heap.size (fun k_ => (w.heap.size ≤ k_)) v212 x17_4) := ⟨by rw [← hq_]; exact (by (with_reducible repeat (first | apply Kd.R_alloc | apply Kd.R_drewN | apply Kd.R_drew)); exact HO_17.out)⟩; have n1_ : Aside0 (Kd.V (Kd.int .i64) 3 w69 w.heap.size (fun k_ => (P2_ k_ ∨ w.heap.size ≤ k_) ∧ some k_ ≠ (v212 : Value).ownBlock ∧ k_ ≠ gb208) (.slice Ao70 x2_4.length co70) x2_4) := ⟨by rw [← hq_]; exact (by (with_reducible repeat (first | apply Kd.V_alloc | apply Kd.V_drewN | apply Kd.V_drew)); exact HO_2.out)⟩; have n2_ : Aside0 (w69.heap[gb208]? = some (.cells #[.int .u16 x209000_4] 90 (0, 0))) := ⟨by rw [← hq_]; exact (by (with_reducible repeat (first | refine blk_drewN ?_ _ | refine blk_drew ?_ | refine blk_alloc ?_ _)); exact BK208.out)⟩; have n3_ : Aside0 (Below w.heap.size w w69) := ⟨by rw [← hq_]; exact (by repeat (first | (with_reducible first | exact HB.out | apply below_alloc | apply pw_below_drewN | apply below_drew1 | refine below_set ?_ GE208.out) | exact HB.out))⟩; clear HO_17 HO_2 BK208 HB hq_; have HO_17 := n0_; have HO_2 := n1_; have BK208 := n2_; have HB := n3_; clear n0_ n1_ n2_ n3_)); have p68 : 0 ≤ (x61_4 : Int) := of_decide_eq_true (by first | (with_reducible assumption) | assumption); have q68 : (x61_4 : Int) < ((x17_4.length : Int) : Int) := of_decide_eq_true (by first | (with_reducible assumption) | assumption); obtain ⟨go68, co68, eo68, gb68, gl68, cl68, HG68⟩ := Kd.R_form HO_17.out (by omega); (first | cases eo68 | (injection eo68 with ea_ en_ ec_; (first | subst ea_ | (injection ea_ with ea_; subst ea_)); subst ec_; clear en_)); have GB68 := Aside0.mk gb68; have GG68 := Aside0.mk HG68; clear gb68 gl68 HG68; obtain ⟨hx68_0, hf68_0⟩ := Kd.R_celln 0 HO_17.out (x61_4 : Int) p68 q68; replace p68 := eq_true p68; replace q68 := eq_true q68; obtain ⟨hy71_, hz71_⟩ := Kd.R_celln 0 HO_17.out (x61_4 : Int) (of_decide_eq_true (by first | (with_reducible assumption) | assumption)) (of_decide_eq_true (by first | (with_reducible assumption) | assumption)); have HP71 := Kd.R_putg HO_17.out (x61_4 : Int) t235) | ((with_reducible refine gate_store (t := 21) (p := 95) rfl ?_); refine store_event (t := 21) (p := 95) (v := ?vo_w72) (w1 := (w69.setCell ⟨go68, (x61_4 : Int).toNat, none⟩ (.int .i32 t235))) ?hg ?ho ?hn ?hr ?_; (case ho => rfl); (case hg => rfl); (case hn => rfl); (case hr => first | (go_simp; done) | (go_simp; rfl)); intro w72 hw; have hg : w69.grownBy w72 (some go68) := (by rw [hw]; exact HP71.2); have hp_ : Kd.R (Kd.int .i32) 21 w72 w.heap.size (fun k_ => (w.heap.size ≤ k_)) (.slice (some ⟨go68, 0, none⟩) x17_4.length co68) y236 := (by rw [hw, Ny236.out]; exact HP71.1); clear HP71; have n0_ := Aside0.mk (Kd.V_afterv (v := (.slice (some ⟨go68, 0, none⟩) x17_4.length co68)) (v1 := (.slice (some ⟨go68, 0, none⟩) x17_4.length co68)) (ok := (fun k_ => (P2_ k_ ∨ w.heap.size ≤ k_) ∧ k_ ≠ gb208)) (by (with_reducible repeat (first | apply Kd.V_alloc | apply Kd.V_drewN | apply Kd.V_drew)); exact Kd.V_mono HO_2.out (fun _ hk => ⟨⟨hk.1, hk.2.2⟩, hk.2.1⟩)) hg (.inl rfl)); have n1_ := Aside0.mk (hp_); have n2_ := Aside0.mk (blk_grown (g := gb208) (o := .cells #[.int .u16 x209000_4] 90 (0, 0)) (by (with_reducible repeat (first | refine blk_drewN ?_ _ | refine blk_drew ?_ | refine blk_alloc ?_ _)); exact BK208.out) hg (Kd.R_ne HO_17.out BK208.out (by decide))); have n3_ := Aside0.mk ((by rw [hw]; exact below_set (HB.out) GB68.out : Below w.heap.size w w72)); clear HO_2; clear HO_17; clear BK208; clear HB; have HO_2 := n0_; have HO_17 := n1_; have BK208 := n2_; have HB := n3_; clear n0_ n1_ n2_ n3_; clear hg hw hp_))
                                      go_roundg k4
                                      case measure => have := HJ6.out; have := HJ9.out; have := HK3.out; have := HK4.out; omega
                                      case rel => exact ⟨(x2_4), (y236), (wrap64 (x61_4 + 1)), (x209000_4), (by first | rfl | (simp; done) | (simp [*]; done)), H', ⟨by have := HJ6.out; have := HJ9.out; have := HK3.out; have := HK4.out; omega⟩, ⟨by (with_reducible repeat (first | apply Kd.V_alloc | apply Kd.V_drewN | apply Kd.V_drew)); exact Kd.V_mono HO_2.out (fun _ hk => ⟨hk.1.1, ⟨hk.2, hk.1.2⟩⟩)⟩, ⟨by (with_reducible repeat (first | apply Kd.R_alloc | apply Kd.R_drewN | apply Kd.R_drew)); exact HO_17.out⟩, ⟨by (with_reducible repeat (first | refine blk_drewN ?_ _ | refine blk_drew ?_ | refine blk_alloc ?_ _)); exact BK208.out⟩, ⟨by repeat (first | (with_reducible first | exact HB.out | apply below_alloc | apply pw_below_drewN | apply below_drew1 | refine below_set ?_ GE208.out) | exact HB.out)⟩⟩
                                    · rw [if_neg c67] at H
                                      exact absurd H (by simp)
                              · rw [if_neg c27] at H
                                exact absurd H (by simp)
                            · rw [if_neg c26] at H
                              exact absurd H (by simp)
                          · rw [if_neg c25] at H
                            have c25b0 : decide (x61_4 < (l0.length : Int)) = false := decide_eq_false c25
                            clear c25
                            simp only [Option.some.injEq, Prod.mk.injEq] at H
                            obtain ⟨rfl, rfl⟩ := H
                            go_wp2
                            go_ret2
                            exact ⟨_, by first | rfl | (simp [errW_none, errW_some] <;> rfl) | (simp [*, errW_none, errW_some] <;> rfl), by (with_reducible repeat (first | apply Kd.R_alloc | apply Kd.R_drewN | apply Kd.R_drew)); exact HO_17.out, by repeat (first | (with_reducible first | exact HB.out | apply below_alloc | apply pw_below_drewN | apply below_drew1 | refine below_set ?_ GE208.out) | exact HB.out)⟩
                    · rw [if_neg c22] at H
                      exact absurd H (by simp)
                  · rw [if_neg c21] at H
                    exact absurd H (by simp)
          · rw [if_neg c12] at H
            have c12b0 : (x13_9 == 0) = false := beq_eq_false_iff_ne.mpr c12
            have c12b1 : (x13_9 != 0) = true := bne_iff_ne.mpr c12
            simp only [Option.some.injEq, Prod.mk.injEq] at H
            obtain ⟨rfl, rfl⟩ := H
            go_wp2
            go_ret2
            exact ⟨_, by first | rfl | (simp [errW_none, errW_some] <;> rfl) | (simp [*, errW_none, errW_some] <;> rfl), by first | exact Kd.R_nil _ _ _ _ _ | exact Kd.N_nil _ _ _ _ _ | exact Kd.V_nil _ _ _ _ _ | exact Kd.Q_nil _ _ _ _ _ | exact Kd.S_nil _ _ _ _ _, by repeat (first | (with_reducible first | exact HB.out | apply below_alloc | apply pw_below_drewN | apply below_drew1) | exact HB.out)⟩

end Go.Proofs.Ytfipchhpnnjkeaa.PGain
