/- Contracts of the functions that the law Band reaches: each Go function as a Lean function, and that the Go text comes to it. Written by programs (wip/tools), out of the program's own loaded form. -/
import Derived.Test.YtgmgdbcfgbgnlaaPBandx0
import Derived.Test.YtgmgdbcfgbgnlaaPBandx1
import Derived.Test.YtgmgdbcfgbgnlaaPBandx2
import Derived.Test.YtgmgdbcfgbgnlaaPBandx3
namespace Go.Proofs.Ytgmgdbcfgbgnlaa.PBand
open Go.RowKit Go.Proofs.YtgmgdbcfgbgnlaaW.PrintWords Go.Proofs.YtgmgdbcfgbgnlaaW.PrintLast Go.Proofs.YtgmgdbcfgbgnlaaW.PrintMore
attribute [local go_sem] max2_int min2_int max_two min_two max_three min_three max_four min_four   -- for this text's walks alone
set_option linter.unusedVariables false
set_option linter.unusedSimpArgs false

/-! ### psalterylaw15_BandKeeps: function 13 -/
mutual
def psalterylaw15_BandKeeps.j0 : Nat → List Int → Int → List Int → Int → Int → Int → Bool → Option (Bool)
  | 0, _, _, _, _, _, _, _ => none
  | k + 1, x0, x1, x5, x6, x7, x8, x38 => if x38 = true then (if x6 = x8 then (some ((x5.length : Int) == 0)) else (some false)) else ((band_Energies.f k x0).bind fun bt235 => ((band_Energies.f k x5).bind fun bt239 => (psalterylaw15_BandKeeps.l0 k x0 x1 x5 x7 bt235.1 bt239.1 0)))
def psalterylaw15_BandKeeps.l0 : Nat → List Int → Int → List Int → Int → List Int → List Int → Int → Option (Bool)
  | 0, _, _, _, _, _, _, _ => none
  | k + 1, x0, x1, x5, x7, x9, x11, x13 => if x13 < (x0.length : Int) then (if x13 < x7 then (if 0 ≤ x13 then (if x13 < (x5.length : Int) then (if (rd x5 x13) = (rd x0 x13) then (if x13 ≥ x7 then (if (rd x5 x13) = 0 then (psalterylaw15_BandKeeps.l0 k x0 x1 x5 x7 x9 x11 (wrap64 (x13 + 1))) else (some false)) else (psalterylaw15_BandKeeps.l0 k x0 x1 x5 x7 x9 x11 (wrap64 (x13 + 1)))) else (some false)) else (none)) else (none)) else (if x13 ≥ x7 then (if 0 ≤ x13 then (if x13 < (x5.length : Int) then (if (rd x5 x13) = 0 then (psalterylaw15_BandKeeps.l0 k x0 x1 x5 x7 x9 x11 (wrap64 (x13 + 1))) else (some false)) else (none)) else (none)) else (psalterylaw15_BandKeeps.l0 k x0 x1 x5 x7 x9 x11 (wrap64 (x13 + 1))))) else (psalterylaw15_BandKeeps.l1 k x1 x5 x9 x11 0)
def psalterylaw15_BandKeeps.l1 : Nat → Int → List Int → List Int → List Int → Int → Option (Bool)
  | 0, _, _, _, _, _ => none
  | k + 1, x1, x5, x9, x11, x14 => if x14 < 8 then (if x14 < (wrap64 ((wrap64 (2 * x1)) + 2)) then (if 0 ≤ x14 then (if x14 < (x9.length : Int) then (if x14 < (x11.length : Int) then (if (rd x9 x14) = (rd x11 x14) then (if x14 ≥ (wrap64 ((wrap64 (2 * x1)) + 2)) then (if (rd x11 x14) = 0 then (psalterylaw15_BandKeeps.l1 k x1 x5 x9 x11 (wrap64 (x14 + 1))) else (some false)) else (psalterylaw15_BandKeeps.l1 k x1 x5 x9 x11 (wrap64 (x14 + 1)))) else (some false)) else (none)) else (none)) else (none)) else (if x14 ≥ (wrap64 ((wrap64 (2 * x1)) + 2)) then (if 0 ≤ x14 then (if x14 < (x11.length : Int) then (if (rd x11 x14) = 0 then (psalterylaw15_BandKeeps.l1 k x1 x5 x9 x11 (wrap64 (x14 + 1))) else (some false)) else (none)) else (none)) else (psalterylaw15_BandKeeps.l1 k x1 x5 x9 x11 (wrap64 (x14 + 1))))) else ((band_Narrow.f x5 x1).bind fun bt251 => (if bt251.2 = 0 then ((psalteryref08_Same32.f k x5 bt251.1).bind fun t255 => (some t255)) else (some false)))
end
def psalterylaw15_BandKeeps.f (k : Nat) (l0 : List Int) (a1 : Int) : Option (Bool) := (psalterylaw15_alive.f k).bind fun t228 => (if t228 = true then ((band_Narrow.f l0 a1).bind fun bt229 => ((band_Kept.f (l0.length : Int) a1).bind fun bt233 => (if bt229.2 = bt233.2 then (psalterylaw15_BandKeeps.j0 k l0 a1 bt229.1 bt229.2 bt233.1 bt233.2 (bt229.2 != 0)) else (psalterylaw15_BandKeeps.j0 k l0 a1 bt229.1 bt229.2 bt233.1 bt233.2 true)))) else (some false))
theorem psalterylaw15_BandKeeps.mono_l : ∀ k, (∀ y0 y1 y2 y3 y4 y5 y6, LeO (psalterylaw15_BandKeeps.j0 k y0 y1 y2 y3 y4 y5 y6) (psalterylaw15_BandKeeps.j0 (k + 1) y0 y1 y2 y3 y4 y5 y6)) ∧ (∀ y0 y1 y2 y3 y4 y5 y6, LeO (psalterylaw15_BandKeeps.l0 k y0 y1 y2 y3 y4 y5 y6) (psalterylaw15_BandKeeps.l0 (k + 1) y0 y1 y2 y3 y4 y5 y6)) ∧ (∀ y0 y1 y2 y3 y4, LeO (psalterylaw15_BandKeeps.l1 k y0 y1 y2 y3 y4) (psalterylaw15_BandKeeps.l1 (k + 1) y0 y1 y2 y3 y4))
  | 0 => ⟨fun _ _ _ _ _ _ _ r h => by simp [psalterylaw15_BandKeeps.j0] at h, fun _ _ _ _ _ _ _ r h => by simp [psalterylaw15_BandKeeps.l0] at h, fun _ _ _ _ _ r h => by simp [psalterylaw15_BandKeeps.l1] at h⟩
  | k + 1 => by
    obtain ⟨ih0, ih1, ih2⟩ := psalterylaw15_BandKeeps.mono_l k
    refine ⟨?_, ?_, ?_⟩
    · intro y0 y1 y2 y3 y4 y5 y6
      unfold psalterylaw15_BandKeeps.j0
      repeat' first
      | (with_reducible exact ih0 _ _ _ _ _ _ _)
      | (with_reducible exact ih1 _ _ _ _ _ _ _)
      | (with_reducible exact ih2 _ _ _ _ _)
      | (with_reducible exact band_Energies.mono _ _)
      | (with_reducible exact psalterylaw15_alive.mono _)
      | (with_reducible exact psalteryref08_Same32.mono _ _ _)
      | (with_reducible exact LeO.refl _)
      | (with_reducible exact LeO.none _)
      | (with_reducible refine LeO.ite ?_ ?_)
      | (with_reducible refine LeO.bind ?_ (fun _ => ?_))
      | exact ih0 _ _ _ _ _ _ _
      | exact ih1 _ _ _ _ _ _ _
      | exact ih2 _ _ _ _ _
      | exact band_Energies.mono _ _
      | exact psalterylaw15_alive.mono _
      | exact psalteryref08_Same32.mono _ _ _
      | exact LeO.none _
      | refine LeO.ite ?_ ?_
      | refine LeO.bind ?_ (fun _ => ?_)
    · intro y0 y1 y2 y3 y4 y5 y6
      unfold psalterylaw15_BandKeeps.l0
      repeat' first
      | (with_reducible exact ih0 _ _ _ _ _ _ _)
      | (with_reducible exact ih1 _ _ _ _ _ _ _)
      | (with_reducible exact ih2 _ _ _ _ _)
      | (with_reducible exact band_Energies.mono _ _)
      | (with_reducible exact psalterylaw15_alive.mono _)
      | (with_reducible exact psalteryref08_Same32.mono _ _ _)
      | (with_reducible exact LeO.refl _)
      | (with_reducible exact LeO.none _)
      | (with_reducible refine LeO.ite ?_ ?_)
      | (with_reducible refine LeO.bind ?_ (fun _ => ?_))
      | exact ih0 _ _ _ _ _ _ _
      | exact ih1 _ _ _ _ _ _ _
      | exact ih2 _ _ _ _ _
      | exact band_Energies.mono _ _
      | exact psalterylaw15_alive.mono _
      | exact psalteryref08_Same32.mono _ _ _
      | exact LeO.none _
      | refine LeO.ite ?_ ?_
      | refine LeO.bind ?_ (fun _ => ?_)
    · intro y0 y1 y2 y3 y4
      unfold psalterylaw15_BandKeeps.l1
      repeat' first
      | (with_reducible exact ih0 _ _ _ _ _ _ _)
      | (with_reducible exact ih1 _ _ _ _ _ _ _)
      | (with_reducible exact ih2 _ _ _ _ _)
      | (with_reducible exact band_Energies.mono _ _)
      | (with_reducible exact psalterylaw15_alive.mono _)
      | (with_reducible exact psalteryref08_Same32.mono _ _ _)
      | (with_reducible exact LeO.refl _)
      | (with_reducible exact LeO.none _)
      | (with_reducible refine LeO.ite ?_ ?_)
      | (with_reducible refine LeO.bind ?_ (fun _ => ?_))
      | exact ih0 _ _ _ _ _ _ _
      | exact ih1 _ _ _ _ _ _ _
      | exact ih2 _ _ _ _ _
      | exact band_Energies.mono _ _
      | exact psalterylaw15_alive.mono _
      | exact psalteryref08_Same32.mono _ _ _
      | exact LeO.none _
      | refine LeO.ite ?_ ?_
      | refine LeO.bind ?_ (fun _ => ?_)
theorem psalterylaw15_BandKeeps.mono : ∀ a0 a1 k, LeO (psalterylaw15_BandKeeps.f k a0 a1) (psalterylaw15_BandKeeps.f (k + 1) a0 a1) := by
  intro a0 a1 k
  obtain ⟨ih0, ih1, ih2⟩ := psalterylaw15_BandKeeps.mono_l k
  unfold psalterylaw15_BandKeeps.f
  repeat' first
      | (with_reducible exact ih0 _ _ _ _ _ _ _)
      | (with_reducible exact ih1 _ _ _ _ _ _ _)
      | (with_reducible exact ih2 _ _ _ _ _)
      | (with_reducible exact band_Energies.mono _ _)
      | (with_reducible exact psalterylaw15_alive.mono _)
      | (with_reducible exact psalteryref08_Same32.mono _ _ _)
      | (with_reducible exact LeO.refl _)
      | (with_reducible exact LeO.none _)
      | (with_reducible refine LeO.ite ?_ ?_)
      | (with_reducible refine LeO.bind ?_ (fun _ => ?_))
      | exact ih0 _ _ _ _ _ _ _
      | exact ih1 _ _ _ _ _ _ _
      | exact ih2 _ _ _ _ _
      | exact band_Energies.mono _ _
      | exact psalterylaw15_alive.mono _
      | exact psalteryref08_Same32.mono _ _ _
      | exact LeO.none _
      | refine LeO.ite ?_ ?_
      | refine LeO.bind ?_ (fun _ => ?_)
set_option maxHeartbeats 8000000 in
set_option maxRecDepth 100000 in
theorem psalterylaw15_BandKeeps.calls (k : Nat) (A0 : Option Addr) (c0 : Nat) (l0 : List Int) (a1 : Int) (r : Bool) (w : World) (hr0 : Kd.C (Kd.int .i32) w A0 l0.length l0) (hc0 : l0.length ≤ c0) (h : psalterylaw15_BandKeeps.f k l0 a1 = some r) :
    Calls Try.prog 13 #[.slice A0 l0.length c0, .int .i64 a1] w fun e w' => e = .returned (.bool r) ∧ Below w.heap.size w w' := by
  have HR0 := Aside0.mk hr0
  have HC0 := Aside0.mk hc0
  clear hr0 hc0
  have HB := Aside0.mk (Below.refl w.heap.size w)
  have H : ((psalterylaw15_alive.f k).bind fun t228 => (if t228 = true then ((band_Narrow.f l0 a1).bind fun bt229 => ((band_Kept.f (l0.length : Int) a1).bind fun bt233 => (if bt229.2 = bt233.2 then (psalterylaw15_BandKeeps.j0 k l0 a1 bt229.1 bt229.2 bt233.1 bt233.2 (bt229.2 != 0)) else (psalterylaw15_BandKeeps.j0 k l0 a1 bt229.1 bt229.2 bt233.1 bt233.2 true)))) else (some false))) = some r := h
  clear h
  replace H := Option.bind_eq_some_iff.mp H
  obtain ⟨t228, A30, H⟩ := H
  replace H : (if t228 = true then ((band_Narrow.f l0 a1).bind fun bt229 => ((band_Kept.f (l0.length : Int) a1).bind fun bt233 => (if bt229.2 = bt233.2 then (psalterylaw15_BandKeeps.j0 k l0 a1 bt229.1 bt229.2 bt233.1 bt233.2 (bt229.2 != 0)) else (psalterylaw15_BandKeeps.j0 k l0 a1 bt229.1 bt229.2 bt233.1 bt233.2 true)))) else (some false)) = some r := H
  have A3 := Aside0.mk A30
  clear A30
  by_cases c4 : t228 = true
  · subst c4
    have H1 : ((band_Narrow.f l0 a1).bind fun bt229 => ((band_Kept.f (l0.length : Int) a1).bind fun bt233 => (if bt229.2 = bt233.2 then (psalterylaw15_BandKeeps.j0 k l0 a1 bt229.1 bt229.2 bt233.1 bt233.2 (bt229.2 != 0)) else (psalterylaw15_BandKeeps.j0 k l0 a1 bt229.1 bt229.2 bt233.1 bt233.2 true)))) = some r := by rw [if_pos rfl] at H; exact H
    clear H
    have H := H1
    clear H1
    replace H := Option.bind_eq_some_iff.mp H
    obtain ⟨⟨t229, t230⟩, A50, H⟩ := H
    replace H : ((band_Kept.f (l0.length : Int) a1).bind fun bt233 => (if t230 = bt233.2 then (psalterylaw15_BandKeeps.j0 k l0 a1 t229 t230 bt233.1 bt233.2 (t230 != 0)) else (psalterylaw15_BandKeeps.j0 k l0 a1 t229 t230 bt233.1 bt233.2 true))) = some r := H
    have A5 := Aside0.mk A50
    clear A50
    replace H := Option.bind_eq_some_iff.mp H
    obtain ⟨⟨t233, t234⟩, A60, H⟩ := H
    replace H : (if t230 = t234 then (psalterylaw15_BandKeeps.j0 k l0 a1 t229 t230 t233 t234 (t230 != 0)) else (psalterylaw15_BandKeeps.j0 k l0 a1 t229 t230 t233 t234 true)) = some r := H
    have A6 := Aside0.mk A60
    clear A60
    have HC7 := Aside0.mk H
    clear H
    go_enter Try.func13, Try.ntmps13
    go_upto_region 5 with (first | (go_at_call 30; (with_reducible refine (psalterylaw15_alive.calls k  true _ A3.out).mono ?_); rintro e w8 ⟨rfl, hb⟩; have n0_ := Aside0.mk (below_step (by repeat (first | (with_reducible first | exact HB.out | apply below_alloc | apply pw_below_drewN | apply below_drew1) | exact HB.out)) hb); clear HB; have HB := n0_; clear n0_; (try clear hb); (try clear hb2); (try clear hk); (try clear hi)) | (go_at_call 44; (with_reducible refine (band_Narrow.calls _ _ l0 a1 t229 t230 _ ?side1 ?side2 A5.out).mono ?_); (case side1 => repeat (first | exact (Kd.C_below HR0.out HB.out) | (with_reducible refine Kd.C_alloc ?_ _) | (with_reducible refine Kd.C_drewN ?_ _) | (with_reducible refine Kd.C_drew ?_))); (case side2 => exact HC0.out); rintro e w9 ⟨v231, rfl, ho0, hb⟩; have n0_ := Aside0.mk (Kd.R_lower ho0 (below_size (by repeat (first | (with_reducible first | exact HB.out | apply below_alloc | apply pw_below_drewN | apply below_drew1) | exact HB.out)))); have n1_ := Aside0.mk (below_step (by repeat (first | (with_reducible first | exact HB.out | apply below_alloc | apply pw_below_drewN | apply below_drew1) | exact HB.out)) hb); clear HB; have HO232 := n0_; have HB := n1_; clear n0_ n1_; (try clear hb); (try clear hb2); (try clear hk); (try clear hi); (try clear ho0)) | (go_at_call 32; (with_reducible refine (band_Kept.calls (l0.length : Int) a1 t233 t234 _ A6.out).mono ?_); rintro e w10 ⟨rfl, hb⟩; have n0_ := Aside0.mk (Kd.R_below (by (with_reducible repeat (first | apply Kd.R_alloc | apply Kd.R_drewN | apply Kd.R_drew)); exact HO232.out) hb); have n1_ := Aside0.mk (below_step (by repeat (first | (with_reducible first | exact HB.out | apply below_alloc | apply pw_below_drewN | apply below_drew1) | exact HB.out)) hb); clear HO232; clear HB; have HO232 := n0_; have HB := n1_; clear n0_ n1_; (try clear hb); (try clear hb2); (try clear hk); (try clear hi)))
    repeat (go_quiet (first | (go_at_call 30; (with_reducible refine (psalterylaw15_alive.calls k  true _ A3.out).mono ?_); rintro e w8 ⟨rfl, hb⟩; have n0_ := Aside0.mk (below_step (by repeat (first | (with_reducible first | exact HB.out | apply below_alloc | apply pw_below_drewN | apply below_drew1) | exact HB.out)) hb); clear HB; have HB := n0_; clear n0_; (try clear hb); (try clear hb2); (try clear hk); (try clear hi)) | (go_at_call 44; (with_reducible refine (band_Narrow.calls _ _ l0 a1 t229 t230 _ ?side1 ?side2 A5.out).mono ?_); (case side1 => repeat (first | exact (Kd.C_below HR0.out HB.out) | (with_reducible refine Kd.C_alloc ?_ _) | (with_reducible refine Kd.C_drewN ?_ _) | (with_reducible refine Kd.C_drew ?_))); (case side2 => exact HC0.out); rintro e w9 ⟨v231, rfl, ho0, hb⟩; have n0_ := Aside0.mk (Kd.R_lower ho0 (below_size (by repeat (first | (with_reducible first | exact HB.out | apply below_alloc | apply pw_below_drewN | apply below_drew1) | exact HB.out)))); have n1_ := Aside0.mk (below_step (by repeat (first | (with_reducible first | exact HB.out | apply below_alloc | apply pw_below_drewN | apply below_drew1) | exact HB.out)) hb); clear HB; have HO232 := n0_; have HB := n1_; clear n0_ n1_; (try clear hb); (try clear hb2); (try clear hk); (try clear hi); (try clear ho0)) | (go_at_call 32; (with_reducible refine (band_Kept.calls (l0.length : Int) a1 t233 t234 _ A6.out).mono ?_); rintro e w10 ⟨rfl, hb⟩; have n0_ := Aside0.mk (Kd.R_below (by (with_reducible repeat (first | apply Kd.R_alloc | apply Kd.R_drewN | apply Kd.R_drew)); exact HO232.out) hb); have n1_ := Aside0.mk (below_step (by repeat (first | (with_reducible first | exact HB.out | apply below_alloc | apply pw_below_drewN | apply below_drew1) | exact HB.out)) hb); clear HO232; clear HB; have HO232 := n0_; have HB := n1_; clear n0_ n1_; (try clear hb); (try clear hb2); (try clear hk); (try clear hi))); go_upto_region 5 with (first | (go_at_call 30; (with_reducible refine (psalterylaw15_alive.calls k  true _ A3.out).mono ?_); rintro e w8 ⟨rfl, hb⟩; have n0_ := Aside0.mk (below_step (by repeat (first | (with_reducible first | exact HB.out | apply below_alloc | apply pw_below_drewN | apply below_drew1) | exact HB.out)) hb); clear HB; have HB := n0_; clear n0_; (try clear hb); (try clear hb2); (try clear hk); (try clear hi)) | (go_at_call 44; (with_reducible refine (band_Narrow.calls _ _ l0 a1 t229 t230 _ ?side1 ?side2 A5.out).mono ?_); (case side1 => repeat (first | exact (Kd.C_below HR0.out HB.out) | (with_reducible refine Kd.C_alloc ?_ _) | (with_reducible refine Kd.C_drewN ?_ _) | (with_reducible refine Kd.C_drew ?_))); (case side2 => exact HC0.out); rintro e w9 ⟨v231, rfl, ho0, hb⟩; have n0_ := Aside0.mk (Kd.R_lower ho0 (below_size (by repeat (first | (with_reducible first | exact HB.out | apply below_alloc | apply pw_below_drewN | apply below_drew1) | exact HB.out)))); have n1_ := Aside0.mk (below_step (by repeat (first | (with_reducible first | exact HB.out | apply below_alloc | apply pw_below_drewN | apply below_drew1) | exact HB.out)) hb); clear HB; have HO232 := n0_; have HB := n1_; clear n0_ n1_; (try clear hb); (try clear hb2); (try clear hk); (try clear hi); (try clear ho0)) | (go_at_call 32; (with_reducible refine (band_Kept.calls (l0.length : Int) a1 t233 t234 _ A6.out).mono ?_); rintro e w10 ⟨rfl, hb⟩; have n0_ := Aside0.mk (Kd.R_below (by (with_reducible repeat (first | apply Kd.R_alloc | apply Kd.R_drewN | apply Kd.R_drew)); exact HO232.out) hb); have n1_ := Aside0.mk (below_step (by repeat (first | (with_reducible first | exact HB.out | apply below_alloc | apply pw_below_drewN | apply below_drew1) | exact HB.out)) hb); clear HO232; clear HB; have HO232 := n0_; have HB := n1_; clear n0_ n1_; (try clear hb); (try clear hb2); (try clear hk); (try clear hi))))
    (try simp only [Act.put, List.setIfInBounds_toArray, List.set_cons_zero, List.set_cons_succ])
    go_cut [38] (fun v38 wc => ∃ (kq : Nat) (x38_6 : Bool), v38 = .bool x38_6 ∧ Aside0 (psalterylaw15_BandKeeps.j0 kq l0 a1 t229 t230 t233 t234 x38_6 = some r) ∧ Aside0 (kq ≤ k) ∧ Aside0 (Kd.R (Kd.int .i32) 21 wc w.heap.size (fun _ => True) v231 t229) ∧ Aside0 (Below w.heap.size w wc))
    case first =>
      have H := HC7.out
      clear HC7
      by_cases c11 : t230 = t234
      · rw [if_pos c11] at H
        have c11b0 : (t230 == t234) = true := beq_iff_eq.mpr c11
        have c11b1 : (t230 != t234) = false := bne_eq_false_iff_eq.mpr c11
        clear c11
        (first | rw [c11b0] | (simp only [i64_w, i32_w]; rw [c11b0]) | skip)
        have H' := Aside0.mk H
        clear H
        go_wp2
        repeat (go_quiet (fail); try go_wp2)
        go_meet
        case rel => exact ⟨_, ((t230 != 0)), (by first | rfl | (simp; done) | (simp [*]; done)), H', ⟨by first | omega | exact Nat.le_refl _⟩, ⟨by (with_reducible repeat (first | apply Kd.R_alloc | apply Kd.R_drewN | apply Kd.R_drew)); exact HO232.out⟩, ⟨by repeat (first | (with_reducible first | exact HB.out | apply below_alloc | apply pw_below_drewN | apply below_drew1) | exact HB.out)⟩⟩
      · rw [if_neg c11] at H
        have c11b0 : (t230 == t234) = false := beq_eq_false_iff_ne.mpr c11
        have c11b1 : (t230 != t234) = true := bne_iff_ne.mpr c11
        (first | rw [c11b0] | (simp only [i64_w, i32_w]; rw [c11b0]) | skip)
        have H' := Aside0.mk H
        clear H
        go_wp2
        repeat (go_quiet (fail); try go_wp2)
        go_meet
        case rel => exact ⟨_, (true), (by first | rfl | (simp; done) | (simp [*]; done)), H', ⟨by first | omega | exact Nat.le_refl _⟩, ⟨by (with_reducible repeat (first | apply Kd.R_alloc | apply Kd.R_drewN | apply Kd.R_drew)); exact HO232.out⟩, ⟨by repeat (first | (with_reducible first | exact HB.out | apply below_alloc | apply pw_below_drewN | apply below_drew1) | exact HB.out)⟩⟩
    case rest =>
      clear HC7
      try clear c1
      try clear p2
      try clear c4
      try clear c11
      try clear c11b0
      try clear c11b1
      obtain ⟨kq, x38_6, rfl, HA, HJ6, HO_5, HB⟩ := hcut
      cases kq with
      | zero => exact absurd HA.out (by simp [psalterylaw15_BandKeeps.j0])
      | succ kj6 =>
        have H := HA.out
        clear HA
        simp only [psalterylaw15_BandKeeps.j0] at H
        by_cases c12 : x38_6 = true
        · subst c12
          have H1 : (if t230 = t234 then (some ((t229.length : Int) == 0)) else (some false)) = some r := by rw [if_pos rfl] at H; exact H
          clear H
          have H := H1
          clear H1
          by_cases c13 : t230 = t234
          · rw [if_pos c13] at H
            have c13b0 : (t230 == t234) = true := beq_iff_eq.mpr c13
            have c13b1 : (t230 != t234) = false := bne_eq_false_iff_eq.mpr c13
            clear c13
            obtain rfl := Option.some.inj H
            obtain ⟨Ao14, co14, eo14⟩ := Kd.R_slice HO_5.out
            subst eo14
            go_wp2
            repeat (go_quiet (fail); try go_wp2)
            go_ret
            exact ⟨by first | rfl | (simp [errW_none, errW_some] <;> rfl) | (simp [*, errW_none, errW_some] <;> rfl), by repeat (first | (with_reducible first | exact HB.out | apply below_alloc | apply pw_below_drewN | apply below_drew1) | exact HB.out)⟩
          · rw [if_neg c13] at H
            have c13b0 : (t230 == t234) = false := beq_eq_false_iff_ne.mpr c13
            have c13b1 : (t230 != t234) = true := bne_iff_ne.mpr c13
            obtain rfl := Option.some.inj H
            go_wp2
            repeat (go_quiet (fail); try go_wp2)
            go_ret
            exact ⟨by first | rfl | (simp [errW_none, errW_some] <;> rfl) | (simp [*, errW_none, errW_some] <;> rfl), by repeat (first | (with_reducible first | exact HB.out | apply below_alloc | apply pw_below_drewN | apply below_drew1) | exact HB.out)⟩
        · replace c12 := Bool.eq_false_iff.mpr c12
          subst c12
          have H1 : ((band_Energies.f kj6 l0).bind fun bt235 => ((band_Energies.f kj6 t229).bind fun bt239 => (psalterylaw15_BandKeeps.l0 kj6 l0 a1 t229 t233 bt235.1 bt239.1 0))) = some r := by rw [if_neg (show ¬ (false = true) by decide)] at H; exact H
          clear H
          have H := H1
          clear H1
          replace H := Option.bind_eq_some_iff.mp H
          obtain ⟨⟨t235, t236⟩, A150, H⟩ := H
          replace H : ((band_Energies.f kj6 t229).bind fun bt239 => (psalterylaw15_BandKeeps.l0 kj6 l0 a1 t229 t233 t235 bt239.1 0)) = some r := H
          have A15 := Aside0.mk A150
          clear A150
          replace H := Option.bind_eq_some_iff.mp H
          obtain ⟨⟨t239, t240⟩, A160, H⟩ := H
          replace H : (psalterylaw15_BandKeeps.l0 kj6 l0 a1 t229 t233 t235 t239 0) = some r := H
          have A16 := Aside0.mk A160
          clear A160
          have H' := Aside0.mk H
          clear H
          go_wp2_with (first | (go_at_call 42; (with_reducible refine (band_Energies.calls kj6 _ _ l0 t235 t236 _ ?side1 ?side2 A15.out).mono ?_); (case side1 => repeat (first | exact (Kd.C_below HR0.out HB.out) | (with_reducible refine Kd.C_alloc ?_ _) | (with_reducible refine Kd.C_drewN ?_ _) | (with_reducible refine Kd.C_drew ?_))); (case side2 => exact HC0.out); rintro e w17 ⟨v237, rfl, ho0, hb⟩; have n0_ := Aside0.mk (Kd.R_below (by (with_reducible repeat (first | apply Kd.R_alloc | apply Kd.R_drewN | apply Kd.R_drew)); exact HO_5.out) hb); have n1_ := Aside0.mk (Kd.R_lower ho0 (below_size (by repeat (first | (with_reducible first | exact HB.out | apply below_alloc | apply pw_below_drewN | apply below_drew1) | exact HB.out)))); have n2_ := Aside0.mk (below_step (by repeat (first | (with_reducible first | exact HB.out | apply below_alloc | apply pw_below_drewN | apply below_drew1) | exact HB.out)) hb); clear HO_5; clear HB; have HO_5 := n0_; have HO238 := n1_; have HB := n2_; clear n0_ n1_ n2_; (try clear hb); (try clear hb2); (try clear hk); (try clear hi); (try clear ho0); obtain ⟨Ao18, co18, eo18⟩ := Kd.R_slice HO_5.out; subst eo18) | (go_at_call 42; (with_reducible refine (band_Energies.calls kj6 _ _ t229 t239 t240 _ ?side1 ?side2 A16.out).mono ?_); (case side1 => repeat (first | exact (Kd.R_reads' HO_5.out).2.2 | (with_reducible refine Kd.C_alloc ?_ _) | (with_reducible refine Kd.C_drewN ?_ _) | (with_reducible refine Kd.C_drew ?_))); (case side2 => exact (Kd.R_reads' HO_5.out).2.1); rintro e w19 ⟨v241, rfl, ho0, hb⟩; have n0_ := Aside0.mk (Kd.R_below (by (with_reducible repeat (first | apply Kd.R_alloc | apply Kd.R_drewN | apply Kd.R_drew)); exact HO_5.out) hb); have n1_ := Aside0.mk (Kd.R_elder' (by (with_reducible repeat (first | apply Kd.R_alloc | apply Kd.R_drewN | apply Kd.R_drew)); exact HO238.out) (Kd.R_base ho0) hb); have n2_ := Aside0.mk (Kd.R_lower (Kd.R_new' ho0 (Kd.R_lt (by (with_reducible repeat (first | apply Kd.R_alloc | apply Kd.R_drewN | apply Kd.R_drew)); exact HO238.out))) (below_size (by repeat (first | (with_reducible first | exact HB.out | apply below_alloc | apply pw_below_drewN | apply below_drew1) | exact HB.out)))); have n3_ := Aside0.mk (below_step (by repeat (first | (with_reducible first | exact HB.out | apply below_alloc | apply pw_below_drewN | apply below_drew1) | exact HB.out)) hb); clear HO_5; clear HO238; clear HB; have HO_5 := n0_; have HO238 := n1_; have HO242 := n2_; have HB := n3_; clear n0_ n1_ n2_ n3_; (try clear hb); (try clear hb2); (try clear hk); (try clear hi); (try clear ho0)))
          repeat (go_quiet (first | (go_at_call 42; (with_reducible refine (band_Energies.calls kj6 _ _ l0 t235 t236 _ ?side1 ?side2 A15.out).mono ?_); (case side1 => repeat (first | exact (Kd.C_below HR0.out HB.out) | (with_reducible refine Kd.C_alloc ?_ _) | (with_reducible refine Kd.C_drewN ?_ _) | (with_reducible refine Kd.C_drew ?_))); (case side2 => exact HC0.out); rintro e w17 ⟨v237, rfl, ho0, hb⟩; have n0_ := Aside0.mk (Kd.R_below (by (with_reducible repeat (first | apply Kd.R_alloc | apply Kd.R_drewN | apply Kd.R_drew)); exact HO_5.out) hb); have n1_ := Aside0.mk (Kd.R_lower ho0 (below_size (by repeat (first | (with_reducible first | exact HB.out | apply below_alloc | apply pw_below_drewN | apply below_drew1) | exact HB.out)))); have n2_ := Aside0.mk (below_step (by repeat (first | (with_reducible first | exact HB.out | apply below_alloc | apply pw_below_drewN | apply below_drew1) | exact HB.out)) hb); clear HO_5; clear HB; have HO_5 := n0_; have HO238 := n1_; have HB := n2_; clear n0_ n1_ n2_; (try clear hb); (try clear hb2); (try clear hk); (try clear hi); (try clear ho0); obtain ⟨Ao18, co18, eo18⟩ := Kd.R_slice HO_5.out; subst eo18) | (go_at_call 42; (with_reducible refine (band_Energies.calls kj6 _ _ t229 t239 t240 _ ?side1 ?side2 A16.out).mono ?_); (case side1 => repeat (first | exact (Kd.R_reads' HO_5.out).2.2 | (with_reducible refine Kd.C_alloc ?_ _) | (with_reducible refine Kd.C_drewN ?_ _) | (with_reducible refine Kd.C_drew ?_))); (case side2 => exact (Kd.R_reads' HO_5.out).2.1); rintro e w19 ⟨v241, rfl, ho0, hb⟩; have n0_ := Aside0.mk (Kd.R_below (by (with_reducible repeat (first | apply Kd.R_alloc | apply Kd.R_drewN | apply Kd.R_drew)); exact HO_5.out) hb); have n1_ := Aside0.mk (Kd.R_elder' (by (with_reducible repeat (first | apply Kd.R_alloc | apply Kd.R_drewN | apply Kd.R_drew)); exact HO238.out) (Kd.R_base ho0) hb); have n2_ := Aside0.mk (Kd.R_lower (Kd.R_new' ho0 (Kd.R_lt (by (with_reducible repeat (first | apply Kd.R_alloc | apply Kd.R_drewN | apply Kd.R_drew)); exact HO238.out))) (below_size (by repeat (first | (with_reducible first | exact HB.out | apply below_alloc | apply pw_below_drewN | apply below_drew1) | exact HB.out)))); have n3_ := Aside0.mk (below_step (by repeat (first | (with_reducible first | exact HB.out | apply below_alloc | apply pw_below_drewN | apply below_drew1) | exact HB.out)) hb); clear HO_5; clear HO238; clear HB; have HO_5 := n0_; have HO238 := n1_; have HO242 := n2_; have HB := n3_; clear n0_ n1_ n2_ n3_; (try clear hb); (try clear hb2); (try clear hk); (try clear hi); (try clear ho0))); try go_wp2_with (first | (go_at_call 42; (with_reducible refine (band_Energies.calls kj6 _ _ l0 t235 t236 _ ?side1 ?side2 A15.out).mono ?_); (case side1 => repeat (first | exact (Kd.C_below HR0.out HB.out) | (with_reducible refine Kd.C_alloc ?_ _) | (with_reducible refine Kd.C_drewN ?_ _) | (with_reducible refine Kd.C_drew ?_))); (case side2 => exact HC0.out); rintro e w17 ⟨v237, rfl, ho0, hb⟩; have n0_ := Aside0.mk (Kd.R_below (by (with_reducible repeat (first | apply Kd.R_alloc | apply Kd.R_drewN | apply Kd.R_drew)); exact HO_5.out) hb); have n1_ := Aside0.mk (Kd.R_lower ho0 (below_size (by repeat (first | (with_reducible first | exact HB.out | apply below_alloc | apply pw_below_drewN | apply below_drew1) | exact HB.out)))); have n2_ := Aside0.mk (below_step (by repeat (first | (with_reducible first | exact HB.out | apply below_alloc | apply pw_below_drewN | apply below_drew1) | exact HB.out)) hb); clear HO_5; clear HB; have HO_5 := n0_; have HO238 := n1_; have HB := n2_; clear n0_ n1_ n2_; (try clear hb); (try clear hb2); (try clear hk); (try clear hi); (try clear ho0); obtain ⟨Ao18, co18, eo18⟩ := Kd.R_slice HO_5.out; subst eo18) | (go_at_call 42; (with_reducible refine (band_Energies.calls kj6 _ _ t229 t239 t240 _ ?side1 ?side2 A16.out).mono ?_); (case side1 => repeat (first | exact (Kd.R_reads' HO_5.out).2.2 | (with_reducible refine Kd.C_alloc ?_ _) | (with_reducible refine Kd.C_drewN ?_ _) | (with_reducible refine Kd.C_drew ?_))); (case side2 => exact (Kd.R_reads' HO_5.out).2.1); rintro e w19 ⟨v241, rfl, ho0, hb⟩; have n0_ := Aside0.mk (Kd.R_below (by (with_reducible repeat (first | apply Kd.R_alloc | apply Kd.R_drewN | apply Kd.R_drew)); exact HO_5.out) hb); have n1_ := Aside0.mk (Kd.R_elder' (by (with_reducible repeat (first | apply Kd.R_alloc | apply Kd.R_drewN | apply Kd.R_drew)); exact HO238.out) (Kd.R_base ho0) hb); have n2_ := Aside0.mk (Kd.R_lower (Kd.R_new' ho0 (Kd.R_lt (by (with_reducible repeat (first | apply Kd.R_alloc | apply Kd.R_drewN | apply Kd.R_drew)); exact HO238.out))) (below_size (by repeat (first | (with_reducible first | exact HB.out | apply below_alloc | apply pw_below_drewN | apply below_drew1) | exact HB.out)))); have n3_ := Aside0.mk (below_step (by repeat (first | (with_reducible first | exact HB.out | apply below_alloc | apply pw_below_drewN | apply below_drew1) | exact HB.out)) hb); clear HO_5; clear HO238; clear HB; have HO_5 := n0_; have HO238 := n1_; have HO242 := n2_; have HB := n3_; clear n0_ n1_ n2_ n3_; (try clear hb); (try clear hb2); (try clear hk); (try clear hi); (try clear ho0))))
          go_loopg [13] kj6 (fun kq v13 w' => ∃ (x13_2 : Int), v13 = .int .i64 x13_2 ∧ Aside0 (psalterylaw15_BandKeeps.l0 kq l0 a1 t229 t233 t235 t239 x13_2 = some r) ∧ Aside0 (kq ≤ kj6) ∧ Aside0 (Kd.R (Kd.int .i32) 21 w' w.heap.size (fun _ => True) (.slice Ao18 t229.length co18) t229) ∧ Aside0 (Kd.R (Kd.int .u64) 66 w' w.heap.size (fun k_ => some k_ ≠ (v241 : Value).ownBlock) v237 t235) ∧ Aside0 (Kd.R (Kd.int .u64) 66 w' w.heap.size (fun k_ => some k_ ≠ (v237 : Value).ownBlock) v241 t239) ∧ Aside0 (Below w.heap.size w w'))
          case atStart => exact ⟨(0), (by first | rfl | (simp; done) | (simp [*]; done)), H', ⟨Nat.le_refl _⟩, ⟨by (with_reducible repeat (first | apply Kd.R_alloc | apply Kd.R_drewN | apply Kd.R_drew)); exact HO_5.out⟩, ⟨by (with_reducible repeat (first | apply Kd.R_alloc | apply Kd.R_drewN | apply Kd.R_drew)); exact Kd.R_mono HO238.out (fun _ hk => hk.2)⟩, ⟨by (with_reducible repeat (first | apply Kd.R_alloc | apply Kd.R_drewN | apply Kd.R_drew)); exact Kd.R_mono HO242.out (fun _ hk => hk.2)⟩, ⟨by repeat (first | (with_reducible first | exact HB.out | apply below_alloc | apply pw_below_drewN | apply below_drew1) | exact HB.out)⟩⟩
          case round =>
            clear H'
            try clear c1
            try clear p2
            try clear c4
            try clear c11
            try clear c11b0
            try clear c11b1
            try clear c12
            try clear c13
            try clear c13b0
            try clear c13b1
            try clear p2
            obtain ⟨x13_2, rfl, HA, HK2, HO_5, HO_9, HO_11, HB⟩ := hrel
            cases gk with
            | zero => exact absurd HA.out (by simp [psalterylaw15_BandKeeps.l0])
            | succ k2 =>
              have H := HA.out
              clear HA
              simp only [psalterylaw15_BandKeeps.l0] at H
              by_cases c20 : x13_2 < (l0.length : Int)
              · rw [if_pos c20] at H
                have c20b0 : decide (x13_2 < (l0.length : Int)) = true := decide_eq_true c20
                clear c20
                by_cases c21 : x13_2 < t233
                · rw [if_pos c21] at H
                  have c21b0 : decide (x13_2 < t233) = true := decide_eq_true c21
                  clear c21
                  by_cases c22 : 0 ≤ x13_2
                  · rw [if_pos c22] at H
                    have c22b0 : decide (0 ≤ x13_2) = true := decide_eq_true c22
                    clear c22
                    by_cases c23 : x13_2 < (t229.length : Int)
                    · rw [if_pos c23] at H
                      have c23b0 : decide (x13_2 < (t229.length : Int)) = true := decide_eq_true c23
                      clear c23
                      by_cases c24 : (rd t229 x13_2) = (rd l0 x13_2)
                      · rw [if_pos c24] at H
                        have c24b0 : ((rd t229 x13_2) == (rd l0 x13_2)) = true := beq_iff_eq.mpr c24
                        have c24b1 : ((rd t229 x13_2) != (rd l0 x13_2)) = false := bne_eq_false_iff_eq.mpr c24
                        clear c24
                        by_cases c25 : x13_2 ≥ t233
                        · rw [if_pos c25] at H
                          have c25b0 : decide (t233 ≤ x13_2) = true := decide_eq_true c25
                          clear c25
                          by_cases c26 : (rd t229 x13_2) = 0
                          · rw [if_pos c26] at H
                            have c26b0 : ((rd t229 x13_2) == 0) = true := beq_iff_eq.mpr c26
                            have c26b1 : ((rd t229 x13_2) != 0) = false := bne_eq_false_iff_eq.mpr c26
                            clear c26
                            have H' := Aside0.mk H
                            clear H
                            have p243 : 0 ≤ (x13_2 : Int) := of_decide_eq_true (by first | (with_reducible assumption) | assumption)
                            have q243 : x13_2 < (t229.length : Int) := of_decide_eq_true (by first | (with_reducible assumption) | assumption)
                            obtain ⟨ad243, e243, hx243_0⟩ := Kd.at_int (Kd.R_reads' HO_5.out).2.2 x13_2 p243 q243
                            cases e243
                            replace p243 := eq_true p243
                            replace q243 := eq_true q243
                            have p244 : 0 ≤ (x13_2 : Int) := of_decide_eq_true (by first | (with_reducible assumption) | assumption)
                            have q244 : x13_2 < (l0.length : Int) := of_decide_eq_true (by first | (with_reducible assumption) | assumption)
                            obtain ⟨ad244, e244, hx244_0⟩ := Kd.at_int HR0.out x13_2 p244 q244
                            cases e244
                            replace hx244_0 := (HB.out.cell (World.block_lt_of_cell? w _ hx244_0)).trans hx244_0
                            replace p244 := eq_true p244
                            replace q244 := eq_true q244
                            have p245 : 0 ≤ (x13_2 : Int) := of_decide_eq_true (by first | (with_reducible assumption) | assumption)
                            have q245 : x13_2 < (t229.length : Int) := of_decide_eq_true (by first | (with_reducible assumption) | assumption)
                            obtain ⟨ad245, e245, hx245_0⟩ := Kd.at_int (Kd.R_reads' HO_5.out).2.2 x13_2 p245 q245
                            obtain rfl : ad243 = ad245 := (by injection e245)
                            replace p245 := eq_true p245
                            replace q245 := eq_true q245
                            go_wp2
                            repeat (go_quiet (fail); try go_wp2)
                            go_roundg k2
                            case measure => have := HJ6.out; have := HK2.out; omega
                            case rel => exact ⟨(wrap64 (x13_2 + 1)), (by first | rfl | (simp; done) | (simp [*]; done)), H', ⟨by have := HJ6.out; have := HK2.out; omega⟩, ⟨by (with_reducible repeat (first | apply Kd.R_alloc | apply Kd.R_drewN | apply Kd.R_drew)); exact HO_5.out⟩, ⟨by (with_reducible repeat (first | apply Kd.R_alloc | apply Kd.R_drewN | apply Kd.R_drew)); exact HO_9.out⟩, ⟨by (with_reducible repeat (first | apply Kd.R_alloc | apply Kd.R_drewN | apply Kd.R_drew)); exact HO_11.out⟩, ⟨by repeat (first | (with_reducible first | exact HB.out | apply below_alloc | apply pw_below_drewN | apply below_drew1) | exact HB.out)⟩⟩
                          · rw [if_neg c26] at H
                            have c26b0 : ((rd t229 x13_2) == 0) = false := beq_eq_false_iff_ne.mpr c26
                            have c26b1 : ((rd t229 x13_2) != 0) = true := bne_iff_ne.mpr c26
                            obtain rfl := Option.some.inj H
                            have p243 : 0 ≤ (x13_2 : Int) := of_decide_eq_true (by first | (with_reducible assumption) | assumption)
                            have q243 : x13_2 < (t229.length : Int) := of_decide_eq_true (by first | (with_reducible assumption) | assumption)
                            obtain ⟨ad243, e243, hx243_0⟩ := Kd.at_int (Kd.R_reads' HO_5.out).2.2 x13_2 p243 q243
                            cases e243
                            replace p243 := eq_true p243
                            replace q243 := eq_true q243
                            have p244 : 0 ≤ (x13_2 : Int) := of_decide_eq_true (by first | (with_reducible assumption) | assumption)
                            have q244 : x13_2 < (l0.length : Int) := of_decide_eq_true (by first | (with_reducible assumption) | assumption)
                            obtain ⟨ad244, e244, hx244_0⟩ := Kd.at_int HR0.out x13_2 p244 q244
                            cases e244
                            replace hx244_0 := (HB.out.cell (World.block_lt_of_cell? w _ hx244_0)).trans hx244_0
                            replace p244 := eq_true p244
                            replace q244 := eq_true q244
                            have p245 : 0 ≤ (x13_2 : Int) := of_decide_eq_true (by first | (with_reducible assumption) | assumption)
                            have q245 : x13_2 < (t229.length : Int) := of_decide_eq_true (by first | (with_reducible assumption) | assumption)
                            obtain ⟨ad245, e245, hx245_0⟩ := Kd.at_int (Kd.R_reads' HO_5.out).2.2 x13_2 p245 q245
                            obtain rfl : ad243 = ad245 := (by injection e245)
                            replace p245 := eq_true p245
                            replace q245 := eq_true q245
                            go_wp2
                            repeat (go_quiet (fail); try go_wp2)
                            go_ret
                            exact ⟨by first | rfl | (simp [errW_none, errW_some] <;> rfl) | (simp [*, errW_none, errW_some] <;> rfl), by repeat (first | (with_reducible first | exact HB.out | apply below_alloc | apply pw_below_drewN | apply below_drew1) | exact HB.out)⟩
                        · rw [if_neg c25] at H
                          have c25b0 : decide (t233 ≤ x13_2) = false := decide_eq_false c25
                          clear c25
                          have H' := Aside0.mk H
                          clear H
                          have p243 : 0 ≤ (x13_2 : Int) := of_decide_eq_true (by first | (with_reducible assumption) | assumption)
                          have q243 : x13_2 < (t229.length : Int) := of_decide_eq_true (by first | (with_reducible assumption) | assumption)
                          obtain ⟨ad243, e243, hx243_0⟩ := Kd.at_int (Kd.R_reads' HO_5.out).2.2 x13_2 p243 q243
                          cases e243
                          replace p243 := eq_true p243
                          replace q243 := eq_true q243
                          have p244 : 0 ≤ (x13_2 : Int) := of_decide_eq_true (by first | (with_reducible assumption) | assumption)
                          have q244 : x13_2 < (l0.length : Int) := of_decide_eq_true (by first | (with_reducible assumption) | assumption)
                          obtain ⟨ad244, e244, hx244_0⟩ := Kd.at_int HR0.out x13_2 p244 q244
                          cases e244
                          replace hx244_0 := (HB.out.cell (World.block_lt_of_cell? w _ hx244_0)).trans hx244_0
                          replace p244 := eq_true p244
                          replace q244 := eq_true q244
                          go_wp2
                          repeat (go_quiet (fail); try go_wp2)
                          go_roundg k2
                          case measure => have := HJ6.out; have := HK2.out; omega
                          case rel => exact ⟨(wrap64 (x13_2 + 1)), (by first | rfl | (simp; done) | (simp [*]; done)), H', ⟨by have := HJ6.out; have := HK2.out; omega⟩, ⟨by (with_reducible repeat (first | apply Kd.R_alloc | apply Kd.R_drewN | apply Kd.R_drew)); exact HO_5.out⟩, ⟨by (with_reducible repeat (first | apply Kd.R_alloc | apply Kd.R_drewN | apply Kd.R_drew)); exact HO_9.out⟩, ⟨by (with_reducible repeat (first | apply Kd.R_alloc | apply Kd.R_drewN | apply Kd.R_drew)); exact HO_11.out⟩, ⟨by repeat (first | (with_reducible first | exact HB.out | apply below_alloc | apply pw_below_drewN | apply below_drew1) | exact HB.out)⟩⟩
                      · rw [if_neg c24] at H
                        have c24b0 : ((rd t229 x13_2) == (rd l0 x13_2)) = false := beq_eq_false_iff_ne.mpr c24
                        have c24b1 : ((rd t229 x13_2) != (rd l0 x13_2)) = true := bne_iff_ne.mpr c24
                        obtain rfl := Option.some.inj H
                        have p243 : 0 ≤ (x13_2 : Int) := of_decide_eq_true (by first | (with_reducible assumption) | assumption)
                        have q243 : x13_2 < (t229.length : Int) := of_decide_eq_true (by first | (with_reducible assumption) | assumption)
                        obtain ⟨ad243, e243, hx243_0⟩ := Kd.at_int (Kd.R_reads' HO_5.out).2.2 x13_2 p243 q243
                        cases e243
                        replace p243 := eq_true p243
                        replace q243 := eq_true q243
                        have p244 : 0 ≤ (x13_2 : Int) := of_decide_eq_true (by first | (with_reducible assumption) | assumption)
                        have q244 : x13_2 < (l0.length : Int) := of_decide_eq_true (by first | (with_reducible assumption) | assumption)
                        obtain ⟨ad244, e244, hx244_0⟩ := Kd.at_int HR0.out x13_2 p244 q244
                        cases e244
                        replace hx244_0 := (HB.out.cell (World.block_lt_of_cell? w _ hx244_0)).trans hx244_0
                        replace p244 := eq_true p244
                        replace q244 := eq_true q244
                        go_wp2
                        repeat (go_quiet (fail); try go_wp2)
                        go_ret
                        exact ⟨by first | rfl | (simp [errW_none, errW_some] <;> rfl) | (simp [*, errW_none, errW_some] <;> rfl), by repeat (first | (with_reducible first | exact HB.out | apply below_alloc | apply pw_below_drewN | apply below_drew1) | exact HB.out)⟩
                    · rw [if_neg c23] at H
                      exact absurd H (by simp)
                  · rw [if_neg c22] at H
                    exact absurd H (by simp)
                · rw [if_neg c21] at H
                  have c21b0 : decide (x13_2 < t233) = false := decide_eq_false c21
                  clear c21
                  by_cases c27 : x13_2 ≥ t233
                  · rw [if_pos c27] at H
                    have c27b0 : decide (t233 ≤ x13_2) = true := decide_eq_true c27
                    clear c27
                    by_cases c28 : 0 ≤ x13_2
                    · rw [if_pos c28] at H
                      have c28b0 : decide (0 ≤ x13_2) = true := decide_eq_true c28
                      clear c28
                      by_cases c29 : x13_2 < (t229.length : Int)
                      · rw [if_pos c29] at H
                        have c29b0 : decide (x13_2 < (t229.length : Int)) = true := decide_eq_true c29
                        clear c29
                        by_cases c30 : (rd t229 x13_2) = 0
                        · rw [if_pos c30] at H
                          have c30b0 : ((rd t229 x13_2) == 0) = true := beq_iff_eq.mpr c30
                          have c30b1 : ((rd t229 x13_2) != 0) = false := bne_eq_false_iff_eq.mpr c30
                          clear c30
                          have H' := Aside0.mk H
                          clear H
                          have p246 : 0 ≤ (x13_2 : Int) := of_decide_eq_true (by first | (with_reducible assumption) | assumption)
                          have q246 : x13_2 < (t229.length : Int) := of_decide_eq_true (by first | (with_reducible assumption) | assumption)
                          obtain ⟨ad246, e246, hx246_0⟩ := Kd.at_int (Kd.R_reads' HO_5.out).2.2 x13_2 p246 q246
                          cases e246
                          replace p246 := eq_true p246
                          replace q246 := eq_true q246
                          go_wp2
                          repeat (go_quiet (fail); try go_wp2)
                          go_roundg k2
                          case measure => have := HJ6.out; have := HK2.out; omega
                          case rel => exact ⟨(wrap64 (x13_2 + 1)), (by first | rfl | (simp; done) | (simp [*]; done)), H', ⟨by have := HJ6.out; have := HK2.out; omega⟩, ⟨by (with_reducible repeat (first | apply Kd.R_alloc | apply Kd.R_drewN | apply Kd.R_drew)); exact HO_5.out⟩, ⟨by (with_reducible repeat (first | apply Kd.R_alloc | apply Kd.R_drewN | apply Kd.R_drew)); exact HO_9.out⟩, ⟨by (with_reducible repeat (first | apply Kd.R_alloc | apply Kd.R_drewN | apply Kd.R_drew)); exact HO_11.out⟩, ⟨by repeat (first | (with_reducible first | exact HB.out | apply below_alloc | apply pw_below_drewN | apply below_drew1) | exact HB.out)⟩⟩
                        · rw [if_neg c30] at H
                          have c30b0 : ((rd t229 x13_2) == 0) = false := beq_eq_false_iff_ne.mpr c30
                          have c30b1 : ((rd t229 x13_2) != 0) = true := bne_iff_ne.mpr c30
                          obtain rfl := Option.some.inj H
                          have p246 : 0 ≤ (x13_2 : Int) := of_decide_eq_true (by first | (with_reducible assumption) | assumption)
                          have q246 : x13_2 < (t229.length : Int) := of_decide_eq_true (by first | (with_reducible assumption) | assumption)
                          obtain ⟨ad246, e246, hx246_0⟩ := Kd.at_int (Kd.R_reads' HO_5.out).2.2 x13_2 p246 q246
                          cases e246
                          replace p246 := eq_true p246
                          replace q246 := eq_true q246
                          go_wp2
                          repeat (go_quiet (fail); try go_wp2)
                          go_ret
                          exact ⟨by first | rfl | (simp [errW_none, errW_some] <;> rfl) | (simp [*, errW_none, errW_some] <;> rfl), by repeat (first | (with_reducible first | exact HB.out | apply below_alloc | apply pw_below_drewN | apply below_drew1) | exact HB.out)⟩
                      · rw [if_neg c29] at H
                        exact absurd H (by simp)
                    · rw [if_neg c28] at H
                      exact absurd H (by simp)
                  · rw [if_neg c27] at H
                    have c27b0 : decide (t233 ≤ x13_2) = false := decide_eq_false c27
                    clear c27
                    have H' := Aside0.mk H
                    clear H
                    go_wp2
                    repeat (go_quiet (fail); try go_wp2)
                    go_roundg k2
                    case measure => have := HJ6.out; have := HK2.out; omega
                    case rel => exact ⟨(wrap64 (x13_2 + 1)), (by first | rfl | (simp; done) | (simp [*]; done)), H', ⟨by have := HJ6.out; have := HK2.out; omega⟩, ⟨by (with_reducible repeat (first | apply Kd.R_alloc | apply Kd.R_drewN | apply Kd.R_drew)); exact HO_5.out⟩, ⟨by (with_reducible repeat (first | apply Kd.R_alloc | apply Kd.R_drewN | apply Kd.R_drew)); exact HO_9.out⟩, ⟨by (with_reducible repeat (first | apply Kd.R_alloc | apply Kd.R_drewN | apply Kd.R_drew)); exact HO_11.out⟩, ⟨by repeat (first | (with_reducible first | exact HB.out | apply below_alloc | apply pw_below_drewN | apply below_drew1) | exact HB.out)⟩⟩
              · rw [if_neg c20] at H
                have c20b0 : decide (x13_2 < (l0.length : Int)) = false := decide_eq_false c20
                clear c20
                have H' := Aside0.mk H
                clear H
                go_wp2
                repeat (go_quiet (fail); try go_wp2)
                go_loopg [14] k2 (fun kq v14 w' => ∃ (x14_3 : Int), v14 = .int .i64 x14_3 ∧ Aside0 (psalterylaw15_BandKeeps.l1 kq a1 t229 t235 t239 x14_3 = some r) ∧ Aside0 (kq ≤ k2) ∧ Aside0 (Kd.R (Kd.int .i32) 21 w' w.heap.size (fun _ => True) (.slice Ao18 t229.length co18) t229) ∧ Aside0 (Kd.R (Kd.int .u64) 66 w' w.heap.size (fun k_ => some k_ ≠ (v241 : Value).ownBlock) v237 t235) ∧ Aside0 (Kd.R (Kd.int .u64) 66 w' w.heap.size (fun k_ => some k_ ≠ (v237 : Value).ownBlock) v241 t239) ∧ Aside0 (Below w.heap.size w w'))
                case atStart => exact ⟨(0), (by first | rfl | (simp; done) | (simp [*]; done)), H', ⟨Nat.le_refl _⟩, ⟨by (with_reducible repeat (first | apply Kd.R_alloc | apply Kd.R_drewN | apply Kd.R_drew)); exact HO_5.out⟩, ⟨by (with_reducible repeat (first | apply Kd.R_alloc | apply Kd.R_drewN | apply Kd.R_drew)); exact HO_9.out⟩, ⟨by (with_reducible repeat (first | apply Kd.R_alloc | apply Kd.R_drewN | apply Kd.R_drew)); exact HO_11.out⟩, ⟨by repeat (first | (with_reducible first | exact HB.out | apply below_alloc | apply pw_below_drewN | apply below_drew1) | exact HB.out)⟩⟩
                case round =>
                  clear H'
                  try clear c1
                  try clear c2
                  try clear p2
                  try clear q2
                  try clear hx2
                  try clear c3
                  try clear c4
                  try clear p6
                  try clear c11
                  try clear c11b0
                  try clear c11b1
                  try clear c12
                  try clear c13
                  try clear c13b0
                  try clear c13b1
                  try clear c20
                  try clear c20b0
                  try clear c21
                  try clear c21b0
                  try clear c22
                  try clear c22b0
                  try clear c23
                  try clear c23b0
                  try clear c24
                  try clear c24b0
                  try clear c24b1
                  try clear p24
                  try clear q24
                  try clear hx24
                  try clear c25
                  try clear c25b0
                  try clear c26
                  try clear c26b0
                  try clear c26b1
                  try clear c27
                  try clear c27b0
                  try clear c28
                  try clear c28b0
                  try clear c29
                  try clear c29b0
                  try clear c30
                  try clear c30b0
                  try clear c30b1
                  try clear hx243_0
                  try clear hx244_0
                  try clear hx245_0
                  try clear hx246_0
                  try clear p2
                  try clear p243
                  try clear p244
                  try clear p245
                  try clear p246
                  try clear q243
                  try clear q244
                  try clear q245
                  try clear q246
                  obtain ⟨x14_3, rfl, HA, HK3, HO_5, HO_9, HO_11, HB⟩ := hrel
                  cases gk with
                  | zero => exact absurd HA.out (by simp [psalterylaw15_BandKeeps.l1])
                  | succ k3 =>
                    have H := HA.out
                    clear HA
                    simp only [psalterylaw15_BandKeeps.l1] at H
                    by_cases c31 : x14_3 < 8
                    · rw [if_pos c31] at H
                      have c31b0 : decide (x14_3 < 8) = true := decide_eq_true c31
                      clear c31
                      by_cases c32 : x14_3 < (wrap64 ((wrap64 (2 * a1)) + 2))
                      · rw [if_pos c32] at H
                        have c32b0 : decide (x14_3 < (wrap64 ((wrap64 (2 * a1)) + 2))) = true := decide_eq_true c32
                        clear c32
                        by_cases c33 : 0 ≤ x14_3
                        · rw [if_pos c33] at H
                          have c33b0 : decide (0 ≤ x14_3) = true := decide_eq_true c33
                          clear c33
                          by_cases c34 : x14_3 < (t235.length : Int)
                          · rw [if_pos c34] at H
                            have c34b0 : decide (x14_3 < (t235.length : Int)) = true := decide_eq_true c34
                            clear c34
                            by_cases c35 : x14_3 < (t239.length : Int)
                            · rw [if_pos c35] at H
                              have c35b0 : decide (x14_3 < (t239.length : Int)) = true := decide_eq_true c35
                              clear c35
                              by_cases c36 : (rd t235 x14_3) = (rd t239 x14_3)
                              · rw [if_pos c36] at H
                                have c36b0 : ((rd t235 x14_3) == (rd t239 x14_3)) = true := beq_iff_eq.mpr c36
                                have c36b1 : ((rd t235 x14_3) != (rd t239 x14_3)) = false := bne_eq_false_iff_eq.mpr c36
                                clear c36
                                by_cases c37 : x14_3 ≥ (wrap64 ((wrap64 (2 * a1)) + 2))
                                · rw [if_pos c37] at H
                                  have c37b0 : decide ((wrap64 ((wrap64 (2 * a1)) + 2)) ≤ x14_3) = true := decide_eq_true c37
                                  clear c37
                                  by_cases c38 : (rd t239 x14_3) = 0
                                  · rw [if_pos c38] at H
                                    have c38b0 : ((rd t239 x14_3) == 0) = true := beq_iff_eq.mpr c38
                                    have c38b1 : ((rd t239 x14_3) != 0) = false := bne_eq_false_iff_eq.mpr c38
                                    clear c38
                                    have H' := Aside0.mk H
                                    clear H
                                    obtain ⟨Ao39, co39, eo39⟩ := Kd.R_slice HO_9.out
                                    subst eo39
                                    have p247 : 0 ≤ (x14_3 : Int) := of_decide_eq_true (by first | (with_reducible assumption) | assumption)
                                    have q247 : x14_3 < (t235.length : Int) := of_decide_eq_true (by first | (with_reducible assumption) | assumption)
                                    obtain ⟨ad247, e247, hx247_0⟩ := Kd.at_int (Kd.R_reads' HO_9.out).2.2 x14_3 p247 q247
                                    cases e247
                                    replace p247 := eq_true p247
                                    replace q247 := eq_true q247
                                    obtain ⟨Ao40, co40, eo40⟩ := Kd.R_slice HO_11.out
                                    subst eo40
                                    have p248 : 0 ≤ (x14_3 : Int) := of_decide_eq_true (by first | (with_reducible assumption) | assumption)
                                    have q248 : x14_3 < (t239.length : Int) := of_decide_eq_true (by first | (with_reducible assumption) | assumption)
                                    obtain ⟨ad248, e248, hx248_0⟩ := Kd.at_int (Kd.R_reads' HO_11.out).2.2 x14_3 p248 q248
                                    cases e248
                                    replace p248 := eq_true p248
                                    replace q248 := eq_true q248
                                    have p249 : 0 ≤ (x14_3 : Int) := of_decide_eq_true (by first | (with_reducible assumption) | assumption)
                                    have q249 : x14_3 < (t239.length : Int) := of_decide_eq_true (by first | (with_reducible assumption) | assumption)
                                    obtain ⟨ad249, e249, hx249_0⟩ := Kd.at_int (Kd.R_reads' HO_11.out).2.2 x14_3 p249 q249
                                    obtain rfl : ad248 = ad249 := (by injection e249)
                                    replace p249 := eq_true p249
                                    replace q249 := eq_true q249
                                    go_wp2
                                    repeat (go_quiet (fail); try go_wp2)
                                    go_roundg k3
                                    case measure => have := HJ6.out; have := HK2.out; have := HK3.out; omega
                                    case rel => exact ⟨(wrap64 (x14_3 + 1)), (by first | rfl | (simp; done) | (simp [*]; done)), H', ⟨by have := HJ6.out; have := HK2.out; have := HK3.out; omega⟩, ⟨by (with_reducible repeat (first | apply Kd.R_alloc | apply Kd.R_drewN | apply Kd.R_drew)); exact HO_5.out⟩, ⟨by (with_reducible repeat (first | apply Kd.R_alloc | apply Kd.R_drewN | apply Kd.R_drew)); exact HO_9.out⟩, ⟨by (with_reducible repeat (first | apply Kd.R_alloc | apply Kd.R_drewN | apply Kd.R_drew)); exact HO_11.out⟩, ⟨by repeat (first | (with_reducible first | exact HB.out | apply below_alloc | apply pw_below_drewN | apply below_drew1) | exact HB.out)⟩⟩
                                  · rw [if_neg c38] at H
                                    have c38b0 : ((rd t239 x14_3) == 0) = false := beq_eq_false_iff_ne.mpr c38
                                    have c38b1 : ((rd t239 x14_3) != 0) = true := bne_iff_ne.mpr c38
                                    obtain rfl := Option.some.inj H
                                    obtain ⟨Ao41, co41, eo41⟩ := Kd.R_slice HO_9.out
                                    subst eo41
                                    have p247 : 0 ≤ (x14_3 : Int) := of_decide_eq_true (by first | (with_reducible assumption) | assumption)
                                    have q247 : x14_3 < (t235.length : Int) := of_decide_eq_true (by first | (with_reducible assumption) | assumption)
                                    obtain ⟨ad247, e247, hx247_0⟩ := Kd.at_int (Kd.R_reads' HO_9.out).2.2 x14_3 p247 q247
                                    cases e247
                                    replace p247 := eq_true p247
                                    replace q247 := eq_true q247
                                    obtain ⟨Ao42, co42, eo42⟩ := Kd.R_slice HO_11.out
                                    subst eo42
                                    have p248 : 0 ≤ (x14_3 : Int) := of_decide_eq_true (by first | (with_reducible assumption) | assumption)
                                    have q248 : x14_3 < (t239.length : Int) := of_decide_eq_true (by first | (with_reducible assumption) | assumption)
                                    obtain ⟨ad248, e248, hx248_0⟩ := Kd.at_int (Kd.R_reads' HO_11.out).2.2 x14_3 p248 q248
                                    cases e248
                                    replace p248 := eq_true p248
                                    replace q248 := eq_true q248
                                    have p249 : 0 ≤ (x14_3 : Int) := of_decide_eq_true (by first | (with_reducible assumption) | assumption)
                                    have q249 : x14_3 < (t239.length : Int) := of_decide_eq_true (by first | (with_reducible assumption) | assumption)
                                    obtain ⟨ad249, e249, hx249_0⟩ := Kd.at_int (Kd.R_reads' HO_11.out).2.2 x14_3 p249 q249
                                    obtain rfl : ad248 = ad249 := (by injection e249)
                                    replace p249 := eq_true p249
                                    replace q249 := eq_true q249
                                    go_wp2
                                    repeat (go_quiet (fail); try go_wp2)
                                    go_ret
                                    exact ⟨by first | rfl | (simp [errW_none, errW_some] <;> rfl) | (simp [*, errW_none, errW_some] <;> rfl), by repeat (first | (with_reducible first | exact HB.out | apply below_alloc | apply pw_below_drewN | apply below_drew1) | exact HB.out)⟩
                                · rw [if_neg c37] at H
                                  have c37b0 : decide ((wrap64 ((wrap64 (2 * a1)) + 2)) ≤ x14_3) = false := decide_eq_false c37
                                  clear c37
                                  have H' := Aside0.mk H
                                  clear H
                                  obtain ⟨Ao43, co43, eo43⟩ := Kd.R_slice HO_9.out
                                  subst eo43
                                  have p247 : 0 ≤ (x14_3 : Int) := of_decide_eq_true (by first | (with_reducible assumption) | assumption)
                                  have q247 : x14_3 < (t235.length : Int) := of_decide_eq_true (by first | (with_reducible assumption) | assumption)
                                  obtain ⟨ad247, e247, hx247_0⟩ := Kd.at_int (Kd.R_reads' HO_9.out).2.2 x14_3 p247 q247
                                  cases e247
                                  replace p247 := eq_true p247
                                  replace q247 := eq_true q247
                                  obtain ⟨Ao44, co44, eo44⟩ := Kd.R_slice HO_11.out
                                  subst eo44
                                  have p248 : 0 ≤ (x14_3 : Int) := of_decide_eq_true (by first | (with_reducible assumption) | assumption)
                                  have q248 : x14_3 < (t239.length : Int) := of_decide_eq_true (by first | (with_reducible assumption) | assumption)
                                  obtain ⟨ad248, e248, hx248_0⟩ := Kd.at_int (Kd.R_reads' HO_11.out).2.2 x14_3 p248 q248
                                  cases e248
                                  replace p248 := eq_true p248
                                  replace q248 := eq_true q248
                                  go_wp2
                                  repeat (go_quiet (fail); try go_wp2)
                                  go_roundg k3
                                  case measure => have := HJ6.out; have := HK2.out; have := HK3.out; omega
                                  case rel => exact ⟨(wrap64 (x14_3 + 1)), (by first | rfl | (simp; done) | (simp [*]; done)), H', ⟨by have := HJ6.out; have := HK2.out; have := HK3.out; omega⟩, ⟨by (with_reducible repeat (first | apply Kd.R_alloc | apply Kd.R_drewN | apply Kd.R_drew)); exact HO_5.out⟩, ⟨by (with_reducible repeat (first | apply Kd.R_alloc | apply Kd.R_drewN | apply Kd.R_drew)); exact HO_9.out⟩, ⟨by (with_reducible repeat (first | apply Kd.R_alloc | apply Kd.R_drewN | apply Kd.R_drew)); exact HO_11.out⟩, ⟨by repeat (first | (with_reducible first | exact HB.out | apply below_alloc | apply pw_below_drewN | apply below_drew1) | exact HB.out)⟩⟩
                              · rw [if_neg c36] at H
                                have c36b0 : ((rd t235 x14_3) == (rd t239 x14_3)) = false := beq_eq_false_iff_ne.mpr c36
                                have c36b1 : ((rd t235 x14_3) != (rd t239 x14_3)) = true := bne_iff_ne.mpr c36
                                obtain rfl := Option.some.inj H
                                obtain ⟨Ao45, co45, eo45⟩ := Kd.R_slice HO_9.out
                                subst eo45
                                have p247 : 0 ≤ (x14_3 : Int) := of_decide_eq_true (by first | (with_reducible assumption) | assumption)
                                have q247 : x14_3 < (t235.length : Int) := of_decide_eq_true (by first | (with_reducible assumption) | assumption)
                                obtain ⟨ad247, e247, hx247_0⟩ := Kd.at_int (Kd.R_reads' HO_9.out).2.2 x14_3 p247 q247
                                cases e247
                                replace p247 := eq_true p247
                                replace q247 := eq_true q247
                                obtain ⟨Ao46, co46, eo46⟩ := Kd.R_slice HO_11.out
                                subst eo46
                                have p248 : 0 ≤ (x14_3 : Int) := of_decide_eq_true (by first | (with_reducible assumption) | assumption)
                                have q248 : x14_3 < (t239.length : Int) := of_decide_eq_true (by first | (with_reducible assumption) | assumption)
                                obtain ⟨ad248, e248, hx248_0⟩ := Kd.at_int (Kd.R_reads' HO_11.out).2.2 x14_3 p248 q248
                                cases e248
                                replace p248 := eq_true p248
                                replace q248 := eq_true q248
                                go_wp2
                                repeat (go_quiet (fail); try go_wp2)
                                go_ret
                                exact ⟨by first | rfl | (simp [errW_none, errW_some] <;> rfl) | (simp [*, errW_none, errW_some] <;> rfl), by repeat (first | (with_reducible first | exact HB.out | apply below_alloc | apply pw_below_drewN | apply below_drew1) | exact HB.out)⟩
                            · rw [if_neg c35] at H
                              exact absurd H (by simp)
                          · rw [if_neg c34] at H
                            exact absurd H (by simp)
                        · rw [if_neg c33] at H
                          exact absurd H (by simp)
                      · rw [if_neg c32] at H
                        have c32b0 : decide (x14_3 < (wrap64 ((wrap64 (2 * a1)) + 2))) = false := decide_eq_false c32
                        clear c32
                        by_cases c47 : x14_3 ≥ (wrap64 ((wrap64 (2 * a1)) + 2))
                        · rw [if_pos c47] at H
                          have c47b0 : decide ((wrap64 ((wrap64 (2 * a1)) + 2)) ≤ x14_3) = true := decide_eq_true c47
                          clear c47
                          by_cases c48 : 0 ≤ x14_3
                          · rw [if_pos c48] at H
                            have c48b0 : decide (0 ≤ x14_3) = true := decide_eq_true c48
                            clear c48
                            by_cases c49 : x14_3 < (t239.length : Int)
                            · rw [if_pos c49] at H
                              have c49b0 : decide (x14_3 < (t239.length : Int)) = true := decide_eq_true c49
                              clear c49
                              by_cases c50 : (rd t239 x14_3) = 0
                              · rw [if_pos c50] at H
                                have c50b0 : ((rd t239 x14_3) == 0) = true := beq_iff_eq.mpr c50
                                have c50b1 : ((rd t239 x14_3) != 0) = false := bne_eq_false_iff_eq.mpr c50
                                clear c50
                                have H' := Aside0.mk H
                                clear H
                                obtain ⟨Ao51, co51, eo51⟩ := Kd.R_slice HO_11.out
                                subst eo51
                                have p250 : 0 ≤ (x14_3 : Int) := of_decide_eq_true (by first | (with_reducible assumption) | assumption)
                                have q250 : x14_3 < (t239.length : Int) := of_decide_eq_true (by first | (with_reducible assumption) | assumption)
                                obtain ⟨ad250, e250, hx250_0⟩ := Kd.at_int (Kd.R_reads' HO_11.out).2.2 x14_3 p250 q250
                                cases e250
                                replace p250 := eq_true p250
                                replace q250 := eq_true q250
                                go_wp2
                                repeat (go_quiet (fail); try go_wp2)
                                go_roundg k3
                                case measure => have := HJ6.out; have := HK2.out; have := HK3.out; omega
                                case rel => exact ⟨(wrap64 (x14_3 + 1)), (by first | rfl | (simp; done) | (simp [*]; done)), H', ⟨by have := HJ6.out; have := HK2.out; have := HK3.out; omega⟩, ⟨by (with_reducible repeat (first | apply Kd.R_alloc | apply Kd.R_drewN | apply Kd.R_drew)); exact HO_5.out⟩, ⟨by (with_reducible repeat (first | apply Kd.R_alloc | apply Kd.R_drewN | apply Kd.R_drew)); exact HO_9.out⟩, ⟨by (with_reducible repeat (first | apply Kd.R_alloc | apply Kd.R_drewN | apply Kd.R_drew)); exact HO_11.out⟩, ⟨by repeat (first | (with_reducible first | exact HB.out | apply below_alloc | apply pw_below_drewN | apply below_drew1) | exact HB.out)⟩⟩
                              · rw [if_neg c50] at H
                                have c50b0 : ((rd t239 x14_3) == 0) = false := beq_eq_false_iff_ne.mpr c50
                                have c50b1 : ((rd t239 x14_3) != 0) = true := bne_iff_ne.mpr c50
                                obtain rfl := Option.some.inj H
                                obtain ⟨Ao52, co52, eo52⟩ := Kd.R_slice HO_11.out
                                subst eo52
                                have p250 : 0 ≤ (x14_3 : Int) := of_decide_eq_true (by first | (with_reducible assumption) | assumption)
                                have q250 : x14_3 < (t239.length : Int) := of_decide_eq_true (by first | (with_reducible assumption) | assumption)
                                obtain ⟨ad250, e250, hx250_0⟩ := Kd.at_int (Kd.R_reads' HO_11.out).2.2 x14_3 p250 q250
                                cases e250
                                replace p250 := eq_true p250
                                replace q250 := eq_true q250
                                go_wp2
                                repeat (go_quiet (fail); try go_wp2)
                                go_ret
                                exact ⟨by first | rfl | (simp [errW_none, errW_some] <;> rfl) | (simp [*, errW_none, errW_some] <;> rfl), by repeat (first | (with_reducible first | exact HB.out | apply below_alloc | apply pw_below_drewN | apply below_drew1) | exact HB.out)⟩
                            · rw [if_neg c49] at H
                              exact absurd H (by simp)
                          · rw [if_neg c48] at H
                            exact absurd H (by simp)
                        · rw [if_neg c47] at H
                          have c47b0 : decide ((wrap64 ((wrap64 (2 * a1)) + 2)) ≤ x14_3) = false := decide_eq_false c47
                          clear c47
                          have H' := Aside0.mk H
                          clear H
                          go_wp2
                          repeat (go_quiet (fail); try go_wp2)
                          go_roundg k3
                          case measure => have := HJ6.out; have := HK2.out; have := HK3.out; omega
                          case rel => exact ⟨(wrap64 (x14_3 + 1)), (by first | rfl | (simp; done) | (simp [*]; done)), H', ⟨by have := HJ6.out; have := HK2.out; have := HK3.out; omega⟩, ⟨by (with_reducible repeat (first | apply Kd.R_alloc | apply Kd.R_drewN | apply Kd.R_drew)); exact HO_5.out⟩, ⟨by (with_reducible repeat (first | apply Kd.R_alloc | apply Kd.R_drewN | apply Kd.R_drew)); exact HO_9.out⟩, ⟨by (with_reducible repeat (first | apply Kd.R_alloc | apply Kd.R_drewN | apply Kd.R_drew)); exact HO_11.out⟩, ⟨by repeat (first | (with_reducible first | exact HB.out | apply below_alloc | apply pw_below_drewN | apply below_drew1) | exact HB.out)⟩⟩
                    · rw [if_neg c31] at H
                      have c31b0 : decide (x14_3 < 8) = false := decide_eq_false c31
                      clear c31
                      replace H := Option.bind_eq_some_iff.mp H
                      obtain ⟨⟨t251, t252⟩, A530, H⟩ := H
                      replace H : (if t252 = 0 then ((psalteryref08_Same32.f k3 t229 t251).bind fun t255 => (some t255)) else (some false)) = some r := H
                      have A53 := Aside0.mk A530
                      clear A530
                      by_cases c54 : t252 = 0
                      · rw [if_pos c54] at H
                        have c54b0 : (t252 == 0) = true := beq_iff_eq.mpr c54
                        have c54b1 : (t252 != 0) = false := bne_eq_false_iff_eq.mpr c54
                        clear c54
                        replace H := Option.bind_eq_some_iff.mp H
                        obtain ⟨t255, A550, H⟩ := H
                        replace H : (some t255) = some r := H
                        have A55 := Aside0.mk A550
                        clear A550
                        obtain rfl := Option.some.inj H
                        go_wp2_with (first | (go_at_call 44; (with_reducible refine (band_Narrow.calls _ _ t229 a1 t251 t252 _ ?side1 ?side2 A53.out).mono ?_); (case side1 => repeat (first | exact (Kd.R_reads' HO_5.out).2.2 | (with_reducible refine Kd.C_alloc ?_ _) | (with_reducible refine Kd.C_drewN ?_ _) | (with_reducible refine Kd.C_drew ?_))); (case side2 => exact (Kd.R_reads' HO_5.out).2.1); rintro e w56 ⟨v253, rfl, ho0, hb⟩; have n0_ := Aside0.mk (Kd.R_elder' (by (with_reducible repeat (first | apply Kd.R_alloc | apply Kd.R_drewN | apply Kd.R_drew)); exact HO_5.out) (Kd.R_base ho0) hb); have n1_ := Aside0.mk (Kd.R_below (by (with_reducible repeat (first | apply Kd.R_alloc | apply Kd.R_drewN | apply Kd.R_drew)); exact HO_9.out) hb); have n2_ := Aside0.mk (Kd.R_below (by (with_reducible repeat (first | apply Kd.R_alloc | apply Kd.R_drewN | apply Kd.R_drew)); exact HO_11.out) hb); have n3_ := Aside0.mk (Kd.R_lower (Kd.R_new' ho0 (Kd.R_lt (by (with_reducible repeat (first | apply Kd.R_alloc | apply Kd.R_drewN | apply Kd.R_drew)); exact HO_5.out))) (below_size (by repeat (first | (with_reducible first | exact HB.out | apply below_alloc | apply pw_below_drewN | apply below_drew1) | exact HB.out)))); have n4_ := Aside0.mk (below_step (by repeat (first | (with_reducible first | exact HB.out | apply below_alloc | apply pw_below_drewN | apply below_drew1) | exact HB.out)) hb); clear HO_5; clear HO_9; clear HO_11; clear HB; have HO_5 := n0_; have HO_9 := n1_; have HO_11 := n2_; have HO254 := n3_; have HB := n4_; clear n0_ n1_ n2_ n3_ n4_; (try clear hb); (try clear hb2); (try clear hk); (try clear hi); (try clear ho0); obtain ⟨Ao57, co57, eo57⟩ := Kd.R_slice HO254.out; subst eo57) | (go_at_call 48; (with_reducible refine (psalteryref08_Same32.calls k3 _ _ t229 _ _ t251 t255 _ ?side1 ?side2 ?side3 ?side4 A55.out).mono ?_); (case side1 => repeat (first | exact (Kd.R_reads' HO_5.out).2.2 | (with_reducible refine Kd.C_alloc ?_ _) | (with_reducible refine Kd.C_drewN ?_ _) | (with_reducible refine Kd.C_drew ?_))); (case side2 => exact (Kd.R_reads' HO_5.out).2.1); (case side3 => repeat (first | exact (Kd.R_reads' HO254.out).2.2 | (with_reducible refine Kd.C_alloc ?_ _) | (with_reducible refine Kd.C_drewN ?_ _) | (with_reducible refine Kd.C_drew ?_))); (case side4 => exact (Kd.R_reads' HO254.out).2.1); rintro e w' ⟨rfl, ⟨nd, rfl⟩⟩; (try first | exact ⟨rfl, _, World.drewN_drewN _ _ _⟩ | exact ⟨rfl, _, Eq.trans (World.drewN_drewN _ _ _) (congrArg (World.drewN _) (Nat.add_assoc _ _ _))⟩)))
                        repeat (go_quiet (first | (go_at_call 44; (with_reducible refine (band_Narrow.calls _ _ t229 a1 t251 t252 _ ?side1 ?side2 A53.out).mono ?_); (case side1 => repeat (first | exact (Kd.R_reads' HO_5.out).2.2 | (with_reducible refine Kd.C_alloc ?_ _) | (with_reducible refine Kd.C_drewN ?_ _) | (with_reducible refine Kd.C_drew ?_))); (case side2 => exact (Kd.R_reads' HO_5.out).2.1); rintro e w56 ⟨v253, rfl, ho0, hb⟩; have n0_ := Aside0.mk (Kd.R_elder' (by (with_reducible repeat (first | apply Kd.R_alloc | apply Kd.R_drewN | apply Kd.R_drew)); exact HO_5.out) (Kd.R_base ho0) hb); have n1_ := Aside0.mk (Kd.R_below (by (with_reducible repeat (first | apply Kd.R_alloc | apply Kd.R_drewN | apply Kd.R_drew)); exact HO_9.out) hb); have n2_ := Aside0.mk (Kd.R_below (by (with_reducible repeat (first | apply Kd.R_alloc | apply Kd.R_drewN | apply Kd.R_drew)); exact HO_11.out) hb); have n3_ := Aside0.mk (Kd.R_lower (Kd.R_new' ho0 (Kd.R_lt (by (with_reducible repeat (first | apply Kd.R_alloc | apply Kd.R_drewN | apply Kd.R_drew)); exact HO_5.out))) (below_size (by repeat (first | (with_reducible first | exact HB.out | apply below_alloc | apply pw_below_drewN | apply below_drew1) | exact HB.out)))); have n4_ := Aside0.mk (below_step (by repeat (first | (with_reducible first | exact HB.out | apply below_alloc | apply pw_below_drewN | apply below_drew1) | exact HB.out)) hb); clear HO_5; clear HO_9; clear HO_11; clear HB; have HO_5 := n0_; have HO_9 := n1_; have HO_11 := n2_; have HO254 := n3_; have HB := n4_; clear n0_ n1_ n2_ n3_ n4_; (try clear hb); (try clear hb2); (try clear hk); (try clear hi); (try clear ho0); obtain ⟨Ao57, co57, eo57⟩ := Kd.R_slice HO254.out; subst eo57) | (go_at_call 48; (with_reducible refine (psalteryref08_Same32.calls k3 _ _ t229 _ _ t251 t255 _ ?side1 ?side2 ?side3 ?side4 A55.out).mono ?_); (case side1 => repeat (first | exact (Kd.R_reads' HO_5.out).2.2 | (with_reducible refine Kd.C_alloc ?_ _) | (with_reducible refine Kd.C_drewN ?_ _) | (with_reducible refine Kd.C_drew ?_))); (case side2 => exact (Kd.R_reads' HO_5.out).2.1); (case side3 => repeat (first | exact (Kd.R_reads' HO254.out).2.2 | (with_reducible refine Kd.C_alloc ?_ _) | (with_reducible refine Kd.C_drewN ?_ _) | (with_reducible refine Kd.C_drew ?_))); (case side4 => exact (Kd.R_reads' HO254.out).2.1); rintro e w' ⟨rfl, ⟨nd, rfl⟩⟩; (try first | exact ⟨rfl, _, World.drewN_drewN _ _ _⟩ | exact ⟨rfl, _, Eq.trans (World.drewN_drewN _ _ _) (congrArg (World.drewN _) (Nat.add_assoc _ _ _))⟩))); try go_wp2_with (first | (go_at_call 44; (with_reducible refine (band_Narrow.calls _ _ t229 a1 t251 t252 _ ?side1 ?side2 A53.out).mono ?_); (case side1 => repeat (first | exact (Kd.R_reads' HO_5.out).2.2 | (with_reducible refine Kd.C_alloc ?_ _) | (with_reducible refine Kd.C_drewN ?_ _) | (with_reducible refine Kd.C_drew ?_))); (case side2 => exact (Kd.R_reads' HO_5.out).2.1); rintro e w56 ⟨v253, rfl, ho0, hb⟩; have n0_ := Aside0.mk (Kd.R_elder' (by (with_reducible repeat (first | apply Kd.R_alloc | apply Kd.R_drewN | apply Kd.R_drew)); exact HO_5.out) (Kd.R_base ho0) hb); have n1_ := Aside0.mk (Kd.R_below (by (with_reducible repeat (first | apply Kd.R_alloc | apply Kd.R_drewN | apply Kd.R_drew)); exact HO_9.out) hb); have n2_ := Aside0.mk (Kd.R_below (by (with_reducible repeat (first | apply Kd.R_alloc | apply Kd.R_drewN | apply Kd.R_drew)); exact HO_11.out) hb); have n3_ := Aside0.mk (Kd.R_lower (Kd.R_new' ho0 (Kd.R_lt (by (with_reducible repeat (first | apply Kd.R_alloc | apply Kd.R_drewN | apply Kd.R_drew)); exact HO_5.out))) (below_size (by repeat (first | (with_reducible first | exact HB.out | apply below_alloc | apply pw_below_drewN | apply below_drew1) | exact HB.out)))); have n4_ := Aside0.mk (below_step (by repeat (first | (with_reducible first | exact HB.out | apply below_alloc | apply pw_below_drewN | apply below_drew1) | exact HB.out)) hb); clear HO_5; clear HO_9; clear HO_11; clear HB; have HO_5 := n0_; have HO_9 := n1_; have HO_11 := n2_; have HO254 := n3_; have HB := n4_; clear n0_ n1_ n2_ n3_ n4_; (try clear hb); (try clear hb2); (try clear hk); (try clear hi); (try clear ho0); obtain ⟨Ao57, co57, eo57⟩ := Kd.R_slice HO254.out; subst eo57) | (go_at_call 48; (with_reducible refine (psalteryref08_Same32.calls k3 _ _ t229 _ _ t251 t255 _ ?side1 ?side2 ?side3 ?side4 A55.out).mono ?_); (case side1 => repeat (first | exact (Kd.R_reads' HO_5.out).2.2 | (with_reducible refine Kd.C_alloc ?_ _) | (with_reducible refine Kd.C_drewN ?_ _) | (with_reducible refine Kd.C_drew ?_))); (case side2 => exact (Kd.R_reads' HO_5.out).2.1); (case side3 => repeat (first | exact (Kd.R_reads' HO254.out).2.2 | (with_reducible refine Kd.C_alloc ?_ _) | (with_reducible refine Kd.C_drewN ?_ _) | (with_reducible refine Kd.C_drew ?_))); (case side4 => exact (Kd.R_reads' HO254.out).2.1); rintro e w' ⟨rfl, ⟨nd, rfl⟩⟩; (try first | exact ⟨rfl, _, World.drewN_drewN _ _ _⟩ | exact ⟨rfl, _, Eq.trans (World.drewN_drewN _ _ _) (congrArg (World.drewN _) (Nat.add_assoc _ _ _))⟩))))
                        go_ret
                        exact ⟨by first | rfl | (simp [errW_none, errW_some] <;> rfl) | (simp [*, errW_none, errW_some] <;> rfl), by repeat (first | (with_reducible first | exact HB.out | apply below_alloc | apply pw_below_drewN | apply below_drew1) | exact HB.out)⟩
                      · rw [if_neg c54] at H
                        have c54b0 : (t252 == 0) = false := beq_eq_false_iff_ne.mpr c54
                        have c54b1 : (t252 != 0) = true := bne_iff_ne.mpr c54
                        obtain rfl := Option.some.inj H
                        go_wp2_with (first | (go_at_call 44; (with_reducible refine (band_Narrow.calls _ _ t229 a1 t251 t252 _ ?side1 ?side2 A53.out).mono ?_); (case side1 => repeat (first | exact (Kd.R_reads' HO_5.out).2.2 | (with_reducible refine Kd.C_alloc ?_ _) | (with_reducible refine Kd.C_drewN ?_ _) | (with_reducible refine Kd.C_drew ?_))); (case side2 => exact (Kd.R_reads' HO_5.out).2.1); rintro e w58 ⟨v253, rfl, ho0, hb⟩; have n0_ := Aside0.mk (Kd.R_elder' (by (with_reducible repeat (first | apply Kd.R_alloc | apply Kd.R_drewN | apply Kd.R_drew)); exact HO_5.out) (Kd.R_base ho0) hb); have n1_ := Aside0.mk (Kd.R_below (by (with_reducible repeat (first | apply Kd.R_alloc | apply Kd.R_drewN | apply Kd.R_drew)); exact HO_9.out) hb); have n2_ := Aside0.mk (Kd.R_below (by (with_reducible repeat (first | apply Kd.R_alloc | apply Kd.R_drewN | apply Kd.R_drew)); exact HO_11.out) hb); have n3_ := Aside0.mk (Kd.R_lower (Kd.R_new' ho0 (Kd.R_lt (by (with_reducible repeat (first | apply Kd.R_alloc | apply Kd.R_drewN | apply Kd.R_drew)); exact HO_5.out))) (below_size (by repeat (first | (with_reducible first | exact HB.out | apply below_alloc | apply pw_below_drewN | apply below_drew1) | exact HB.out)))); have n4_ := Aside0.mk (below_step (by repeat (first | (with_reducible first | exact HB.out | apply below_alloc | apply pw_below_drewN | apply below_drew1) | exact HB.out)) hb); clear HO_5; clear HO_9; clear HO_11; clear HB; have HO_5 := n0_; have HO_9 := n1_; have HO_11 := n2_; have HO254 := n3_; have HB := n4_; clear n0_ n1_ n2_ n3_ n4_; (try clear hb); (try clear hb2); (try clear hk); (try clear hi); (try clear ho0)))
                        repeat (go_quiet (first | (go_at_call 44; (with_reducible refine (band_Narrow.calls _ _ t229 a1 t251 t252 _ ?side1 ?side2 A53.out).mono ?_); (case side1 => repeat (first | exact (Kd.R_reads' HO_5.out).2.2 | (with_reducible refine Kd.C_alloc ?_ _) | (with_reducible refine Kd.C_drewN ?_ _) | (with_reducible refine Kd.C_drew ?_))); (case side2 => exact (Kd.R_reads' HO_5.out).2.1); rintro e w58 ⟨v253, rfl, ho0, hb⟩; have n0_ := Aside0.mk (Kd.R_elder' (by (with_reducible repeat (first | apply Kd.R_alloc | apply Kd.R_drewN | apply Kd.R_drew)); exact HO_5.out) (Kd.R_base ho0) hb); have n1_ := Aside0.mk (Kd.R_below (by (with_reducible repeat (first | apply Kd.R_alloc | apply Kd.R_drewN | apply Kd.R_drew)); exact HO_9.out) hb); have n2_ := Aside0.mk (Kd.R_below (by (with_reducible repeat (first | apply Kd.R_alloc | apply Kd.R_drewN | apply Kd.R_drew)); exact HO_11.out) hb); have n3_ := Aside0.mk (Kd.R_lower (Kd.R_new' ho0 (Kd.R_lt (by (with_reducible repeat (first | apply Kd.R_alloc | apply Kd.R_drewN | apply Kd.R_drew)); exact HO_5.out))) (below_size (by repeat (first | (with_reducible first | exact HB.out | apply below_alloc | apply pw_below_drewN | apply below_drew1) | exact HB.out)))); have n4_ := Aside0.mk (below_step (by repeat (first | (with_reducible first | exact HB.out | apply below_alloc | apply pw_below_drewN | apply below_drew1) | exact HB.out)) hb); clear HO_5; clear HO_9; clear HO_11; clear HB; have HO_5 := n0_; have HO_9 := n1_; have HO_11 := n2_; have HO254 := n3_; have HB := n4_; clear n0_ n1_ n2_ n3_ n4_; (try clear hb); (try clear hb2); (try clear hk); (try clear hi); (try clear ho0))); try go_wp2_with (first | (go_at_call 44; (with_reducible refine (band_Narrow.calls _ _ t229 a1 t251 t252 _ ?side1 ?side2 A53.out).mono ?_); (case side1 => repeat (first | exact (Kd.R_reads' HO_5.out).2.2 | (with_reducible refine Kd.C_alloc ?_ _) | (with_reducible refine Kd.C_drewN ?_ _) | (with_reducible refine Kd.C_drew ?_))); (case side2 => exact (Kd.R_reads' HO_5.out).2.1); rintro e w58 ⟨v253, rfl, ho0, hb⟩; have n0_ := Aside0.mk (Kd.R_elder' (by (with_reducible repeat (first | apply Kd.R_alloc | apply Kd.R_drewN | apply Kd.R_drew)); exact HO_5.out) (Kd.R_base ho0) hb); have n1_ := Aside0.mk (Kd.R_below (by (with_reducible repeat (first | apply Kd.R_alloc | apply Kd.R_drewN | apply Kd.R_drew)); exact HO_9.out) hb); have n2_ := Aside0.mk (Kd.R_below (by (with_reducible repeat (first | apply Kd.R_alloc | apply Kd.R_drewN | apply Kd.R_drew)); exact HO_11.out) hb); have n3_ := Aside0.mk (Kd.R_lower (Kd.R_new' ho0 (Kd.R_lt (by (with_reducible repeat (first | apply Kd.R_alloc | apply Kd.R_drewN | apply Kd.R_drew)); exact HO_5.out))) (below_size (by repeat (first | (with_reducible first | exact HB.out | apply below_alloc | apply pw_below_drewN | apply below_drew1) | exact HB.out)))); have n4_ := Aside0.mk (below_step (by repeat (first | (with_reducible first | exact HB.out | apply below_alloc | apply pw_below_drewN | apply below_drew1) | exact HB.out)) hb); clear HO_5; clear HO_9; clear HO_11; clear HB; have HO_5 := n0_; have HO_9 := n1_; have HO_11 := n2_; have HO254 := n3_; have HB := n4_; clear n0_ n1_ n2_ n3_ n4_; (try clear hb); (try clear hb2); (try clear hk); (try clear hi); (try clear ho0))))
                        go_ret
                        exact ⟨by first | rfl | (simp [errW_none, errW_some] <;> rfl) | (simp [*, errW_none, errW_some] <;> rfl), by repeat (first | (with_reducible first | exact HB.out | apply below_alloc | apply pw_below_drewN | apply below_drew1) | exact HB.out)⟩
  · replace c4 := Bool.eq_false_iff.mpr c4
    subst c4
    have H1 : (some false) = some r := by rw [if_neg (show ¬ (false = true) by decide)] at H; exact H
    clear H
    have H := H1
    clear H1
    obtain rfl := Option.some.inj H
    go_enter Try.func13, Try.ntmps13
    go_wp2_with (first | (go_at_call 30; (with_reducible refine (psalterylaw15_alive.calls k  false _ A3.out).mono ?_); rintro e w59 ⟨rfl, hb⟩; have n0_ := Aside0.mk (below_step (by repeat (first | (with_reducible first | exact HB.out | apply below_alloc | apply pw_below_drewN | apply below_drew1) | exact HB.out)) hb); clear HB; have HB := n0_; clear n0_; (try clear hb); (try clear hb2); (try clear hk); (try clear hi)))
    repeat (go_quiet (first | (go_at_call 30; (with_reducible refine (psalterylaw15_alive.calls k  false _ A3.out).mono ?_); rintro e w59 ⟨rfl, hb⟩; have n0_ := Aside0.mk (below_step (by repeat (first | (with_reducible first | exact HB.out | apply below_alloc | apply pw_below_drewN | apply below_drew1) | exact HB.out)) hb); clear HB; have HB := n0_; clear n0_; (try clear hb); (try clear hb2); (try clear hk); (try clear hi))); try go_wp2_with (first | (go_at_call 30; (with_reducible refine (psalterylaw15_alive.calls k  false _ A3.out).mono ?_); rintro e w59 ⟨rfl, hb⟩; have n0_ := Aside0.mk (below_step (by repeat (first | (with_reducible first | exact HB.out | apply below_alloc | apply pw_below_drewN | apply below_drew1) | exact HB.out)) hb); clear HB; have HB := n0_; clear n0_; (try clear hb); (try clear hb2); (try clear hk); (try clear hi))))
    go_ret
    exact ⟨by first | rfl | (simp [errW_none, errW_some] <;> rfl) | (simp [*, errW_none, errW_some] <;> rfl), by repeat (first | (with_reducible first | exact HB.out | apply below_alloc | apply pw_below_drewN | apply below_drew1) | exact HB.out)⟩

/-- THE ONE PURE STATEMENT of psalterylaw15_BandKeeps: yours. -/
def psalterylaw15_BandKeeps.Pure : Prop := ∀ (l0 : List Int) (a1 : Int), l0.length ≤ maxLen → l0.length * 4 ≤ 140737488351232 → (∀ x ∈ l0, (Lit.int .i32 x).wf = true) → (Lit.int .i64 a1).wf = true → ∃ k, psalterylaw15_BandKeeps.f k l0 a1 = some true
theorem psalterylaw15_BandKeeps.walk (P : psalterylaw15_BandKeeps.Pure) (a0 : Option Addr) (len0 cap0 : Nat) (z0 : List Int) (a1 : Int) (w : World) (w0 : (a0 = none ∧ len0 = 0 ∧ cap0 = 0 ∧ z0 = []) ∨ ∃ x, a0 = some x ∧ len0 ≤ cap0 ∧ cap0 ≤ maxLen ∧ z0.length = cap0 ∧ (∀ i, i < z0.length → w.cell? (x.add i) = some (.int .i32 (z0.getD i 0))) ∧ ∀ n ∈ z0, (Lit.int .i32 n).wf = true) (y0 : len0 * 4 ≤ 140737488351232) (w1 : (Lit.int .i64 a1).wf = true) :
    Calls Try.prog 13 #[.slice a0 len0 cap0, .int .i64 a1] w fun e w' => e = .returned (.bool true) ∧ Below w.heap.size w w' := by
  obtain ⟨l0, rfl, hr0, hm0, hw0, hc0⟩ := ReadsInt.ofRowC w0
  obtain ⟨k, h⟩ := P l0 a1 hm0 y0 hw0 w1
  refine (psalterylaw15_BandKeeps.calls k _ _ l0 a1 true w (Kd.C_of_reads (d := (0 : Int)) (h1 := fun _ => rfl) hr0) hc0 h).mono ?_
  rintro e w' ⟨rfl, hd⟩
  exact ⟨rfl, hd⟩

end Go.Proofs.Ytgmgdbcfgbgnlaa.PBand
