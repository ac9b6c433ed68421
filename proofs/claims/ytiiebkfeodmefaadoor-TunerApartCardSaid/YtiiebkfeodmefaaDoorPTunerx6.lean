/- Contracts of the functions that the law Tuner reaches: each Go function as a Lean function, and that the Go text comes to it. Written by programs (wip/tools), out of the program's own loaded form. -/
import Derived.Test.YtiiebkfeodmefaaDoorPTunerx0
import Derived.Test.YtiiebkfeodmefaaDoorPTunerx1b
import Derived.Test.YtiiebkfeodmefaaDoorPTunerx2
import Derived.Test.YtiiebkfeodmefaaDoorPTunerx4
namespace Go.Proofs.YtiiebkfeodmefaaDoor.PTuner
open Go.RowKit Go.Proofs.YtiiebkfeodmefaaDoorW.PrintWords Go.Proofs.YtiiebkfeodmefaaDoorW.PrintLast Go.Proofs.YtiiebkfeodmefaaDoorW.PrintMore
attribute [local go_sem] max2_int min2_int max_two min_two max_three min_three max_four min_four   -- for this text's walks alone
set_option linter.unusedVariables false
set_option linter.unusedSimpArgs false

/-! ### psalterylaw37_TunerApart: function 4 -/
mutual
def psalterylaw37_TunerApart.j0 : Nat → List Int → Int → Int → Bool → Option (Bool)
  | 0, _, _, _, _ => none
  | k + 1, x2, x3, x4, x71 => if x71 = true then (some false) else (if (x2.length : Int) > 100 then (psalterylaw37_TunerApart.j1 k x2 x3 x4 true) else (psalterylaw37_TunerApart.j1 k x2 x3 x4 ((x2.length : Int) == 0)))
def psalterylaw37_TunerApart.j1 : Nat → List Int → Int → Int → Bool → Option (Bool)
  | 0, _, _, _, _ => none
  | k + 1, x2, x3, x4, x79 => if x79 = true then (some true) else (if (wrap64 ((wrap64 (1 + (Int.tmod (wrap64 (x4)) 60))) + 1)) = 0 then (none) else ((tuner_Power.f k x2 (Int.tmod (wrap64 (x3)) (wrap64 ((wrap64 (1 + (Int.tmod (wrap64 (x4)) 60))) + 1))) (wrap64 (1 + (Int.tmod (wrap64 (x4)) 60)))).bind fun bt206 => (psalterylaw37_TunerApart.l0 k x2 bt206.1 bt206.2 0 0)))
def psalterylaw37_TunerApart.l0 : Nat → List Int → Int → Int → Int → Int → Option (Bool)
  | 0, _, _, _, _, _ => none
  | k + 1, x2, x22, x23, x24, x25 => if x25 < (x2.length : Int) then (if 0 ≤ x25 then (psalterylaw37_TunerApart.l0 k x2 x22 x23 (IntKind.u64.wrap (x24 + (IntKind.u64.wrap (wrap64 ((wrap64 (rd x2 x25)) * (wrap64 (rd x2 x25))))))) (wrap64 (x25 + 1))) else (none)) else (if x23 = 0 then (some (decide (x22 ≤ (IntKind.u64.wrap (2 * (IntKind.u64.wrap ((IntKind.u64.wrap ((IntKind.u64.wrap ((IntKind.u64.wrap ((x2.length : Int))) * x24)) + (IntKind.u64.wrap ((IntKind.u64.wrap (2 * (IntKind.u64.wrap ((x2.length : Int))))) * 40000)))) + 1))))))) else (some false))
end
def psalterylaw37_TunerApart.f (k : Nat) (a0 : Int) (a1 : Int) (l2 : List Int) (a3 : Int) (a4 : Int) : Option (Bool) := (psalterylaw37_alive.f).bind fun t197 => (if t197 = true then ((tuner_Name.f (Int.tmod (wrap64 (a0)) 128)).bind fun bt198 => ((tuner_Name.f (Int.tmod (wrap64 (a1)) 128)).bind fun bt200 => ((tuner_Pitch.f (Int.tmod (wrap64 (a0)) 128)).bind fun bt202 => ((tuner_Pitch.f (Int.tmod (wrap64 (a1)) 128)).bind fun bt204 => (if ((bt198.1.toList == bt200.1.toList) != ((Int.tmod (wrap64 (a0)) 128) == (Int.tmod (wrap64 (a1)) 128))) = true then (psalterylaw37_TunerApart.j0 k l2 a3 a4 true) else (if (Int.tmod (wrap64 (a0)) 128) < (Int.tmod (wrap64 (a1)) 128) then (psalterylaw37_TunerApart.j0 k l2 a3 a4 (decide (bt202.1 ≥ bt204.1))) else (psalterylaw37_TunerApart.j0 k l2 a3 a4 false))))))) else (some false))
theorem psalterylaw37_TunerApart.mono_l : ∀ k, (∀ y0 y1 y2 y3, LeO (psalterylaw37_TunerApart.j0 k y0 y1 y2 y3) (psalterylaw37_TunerApart.j0 (k + 1) y0 y1 y2 y3)) ∧ (∀ y0 y1 y2 y3, LeO (psalterylaw37_TunerApart.j1 k y0 y1 y2 y3) (psalterylaw37_TunerApart.j1 (k + 1) y0 y1 y2 y3)) ∧ (∀ y0 y1 y2 y3 y4, LeO (psalterylaw37_TunerApart.l0 k y0 y1 y2 y3 y4) (psalterylaw37_TunerApart.l0 (k + 1) y0 y1 y2 y3 y4))
  | 0 => ⟨fun _ _ _ _ r h => by simp [psalterylaw37_TunerApart.j0] at h, fun _ _ _ _ r h => by simp [psalterylaw37_TunerApart.j1] at h, fun _ _ _ _ _ r h => by simp [psalterylaw37_TunerApart.l0] at h⟩
  | k + 1 => by
    obtain ⟨ih0, ih1, ih2⟩ := psalterylaw37_TunerApart.mono_l k
    refine ⟨?_, ?_, ?_⟩
    · intro y0 y1 y2 y3
      unfold psalterylaw37_TunerApart.j0
      repeat' first
      | (with_reducible exact ih0 _ _ _ _)
      | (with_reducible exact ih1 _ _ _ _)
      | (with_reducible exact ih2 _ _ _ _ _)
      | (with_reducible exact tuner_Power.mono _ _ _ _)
      | (with_reducible exact LeO.refl _)
      | (with_reducible exact LeO.none _)
      | (with_reducible refine LeO.ite ?_ ?_)
      | (with_reducible refine LeO.bind ?_ (fun _ => ?_))
      | exact ih0 _ _ _ _
      | exact ih1 _ _ _ _
      | exact ih2 _ _ _ _ _
      | exact tuner_Power.mono _ _ _ _
      | exact LeO.none _
      | refine LeO.ite ?_ ?_
      | refine LeO.bind ?_ (fun _ => ?_)
    · intro y0 y1 y2 y3
      unfold psalterylaw37_TunerApart.j1
      repeat' first
      | (with_reducible exact ih0 _ _ _ _)
      | (with_reducible exact ih1 _ _ _ _)
      | (with_reducible exact ih2 _ _ _ _ _)
      | (with_reducible exact tuner_Power.mono _ _ _ _)
      | (with_reducible exact LeO.refl _)
      | (with_reducible exact LeO.none _)
      | (with_reducible refine LeO.ite ?_ ?_)
      | (with_reducible refine LeO.bind ?_ (fun _ => ?_))
      | exact ih0 _ _ _ _
      | exact ih1 _ _ _ _
      | exact ih2 _ _ _ _ _
      | exact tuner_Power.mono _ _ _ _
      | exact LeO.none _
      | refine LeO.ite ?_ ?_
      | refine LeO.bind ?_ (fun _ => ?_)
    · intro y0 y1 y2 y3 y4
      unfold psalterylaw37_TunerApart.l0
      repeat' first
      | (with_reducible exact ih0 _ _ _ _)
      | (with_reducible exact ih1 _ _ _ _)
      | (with_reducible exact ih2 _ _ _ _ _)
      | (with_reducible exact tuner_Power.mono _ _ _ _)
      | (with_reducible exact LeO.refl _)
      | (with_reducible exact LeO.none _)
      | (with_reducible refine LeO.ite ?_ ?_)
      | (with_reducible refine LeO.bind ?_ (fun _ => ?_))
      | exact ih0 _ _ _ _
      | exact ih1 _ _ _ _
      | exact ih2 _ _ _ _ _
      | exact tuner_Power.mono _ _ _ _
      | exact LeO.none _
      | refine LeO.ite ?_ ?_
      | refine LeO.bind ?_ (fun _ => ?_)
theorem psalterylaw37_TunerApart.mono : ∀ a0 a1 a2 a3 a4 k, LeO (psalterylaw37_TunerApart.f k a0 a1 a2 a3 a4) (psalterylaw37_TunerApart.f (k + 1) a0 a1 a2 a3 a4) := by
  intro a0 a1 a2 a3 a4 k
  obtain ⟨ih0, ih1, ih2⟩ := psalterylaw37_TunerApart.mono_l k
  unfold psalterylaw37_TunerApart.f
  repeat' first
      | (with_reducible exact ih0 _ _ _ _)
      | (with_reducible exact ih1 _ _ _ _)
      | (with_reducible exact ih2 _ _ _ _ _)
      | (with_reducible exact tuner_Power.mono _ _ _ _)
      | (with_reducible exact LeO.refl _)
      | (with_reducible exact LeO.none _)
      | (with_reducible refine LeO.ite ?_ ?_)
      | (with_reducible refine LeO.bind ?_ (fun _ => ?_))
      | exact ih0 _ _ _ _
      | exact ih1 _ _ _ _
      | exact ih2 _ _ _ _ _
      | exact tuner_Power.mono _ _ _ _
      | exact LeO.none _
      | refine LeO.ite ?_ ?_
      | refine LeO.bind ?_ (fun _ => ?_)
set_option maxHeartbeats 8000000 in
set_option maxRecDepth 100000 in
theorem psalterylaw37_TunerApart.calls (k : Nat) (a0 : Int) (a1 : Int) (A2 : Option Addr) (c2 : Nat) (l2 : List Int) (a3 : Int) (a4 : Int) (r : Bool) (w : World) (ht : Tab w) (hr2 : Kd.C (Kd.int .i16) w A2 l2.length l2) (hc2 : l2.length ≤ c2) (h : psalterylaw37_TunerApart.f k a0 a1 l2 a3 a4 = some r) :
    Calls Tryd.prog 4 #[.int .u8 a0, .int .u8 a1, .slice A2 l2.length c2, .int .u8 a3, .int .u8 a4] w fun e w' => e = .returned (.bool r) ∧ Below w.heap.size w w' := by
  have HT := Aside0.mk ht
  clear ht
  have HR2 := Aside0.mk hr2
  have HC2 := Aside0.mk hc2
  clear hr2 hc2
  have HB := Aside0.mk (Below.refl w.heap.size w)
  have H : ((psalterylaw37_alive.f).bind fun t197 => (if t197 = true then ((tuner_Name.f (Int.tmod (wrap64 (a0)) 128)).bind fun bt198 => ((tuner_Name.f (Int.tmod (wrap64 (a1)) 128)).bind fun bt200 => ((tuner_Pitch.f (Int.tmod (wrap64 (a0)) 128)).bind fun bt202 => ((tuner_Pitch.f (Int.tmod (wrap64 (a1)) 128)).bind fun bt204 => (if ((bt198.1.toList == bt200.1.toList) != ((Int.tmod (wrap64 (a0)) 128) == (Int.tmod (wrap64 (a1)) 128))) = true then (psalterylaw37_TunerApart.j0 k l2 a3 a4 true) else (if (Int.tmod (wrap64 (a0)) 128) < (Int.tmod (wrap64 (a1)) 128) then (psalterylaw37_TunerApart.j0 k l2 a3 a4 (decide (bt202.1 ≥ bt204.1))) else (psalterylaw37_TunerApart.j0 k l2 a3 a4 false))))))) else (some false))) = some r := h
  clear h
  replace H := Option.bind_eq_some_iff.mp H
  obtain ⟨t197, A60, H⟩ := H
  replace H : (if t197 = true then ((tuner_Name.f (Int.tmod (wrap64 (a0)) 128)).bind fun bt198 => ((tuner_Name.f (Int.tmod (wrap64 (a1)) 128)).bind fun bt200 => ((tuner_Pitch.f (Int.tmod (wrap64 (a0)) 128)).bind fun bt202 => ((tuner_Pitch.f (Int.tmod (wrap64 (a1)) 128)).bind fun bt204 => (if ((bt198.1.toList == bt200.1.toList) != ((Int.tmod (wrap64 (a0)) 128) == (Int.tmod (wrap64 (a1)) 128))) = true then (psalterylaw37_TunerApart.j0 k l2 a3 a4 true) else (if (Int.tmod (wrap64 (a0)) 128) < (Int.tmod (wrap64 (a1)) 128) then (psalterylaw37_TunerApart.j0 k l2 a3 a4 (decide (bt202.1 ≥ bt204.1))) else (psalterylaw37_TunerApart.j0 k l2 a3 a4 false))))))) else (some false)) = some r := H
  have A6 := Aside0.mk A60
  clear A60
  by_cases c7 : t197 = true
  · subst c7
    have H1 : ((tuner_Name.f (Int.tmod (wrap64 (a0)) 128)).bind fun bt198 => ((tuner_Name.f (Int.tmod (wrap64 (a1)) 128)).bind fun bt200 => ((tuner_Pitch.f (Int.tmod (wrap64 (a0)) 128)).bind fun bt202 => ((tuner_Pitch.f (Int.tmod (wrap64 (a1)) 128)).bind fun bt204 => (if ((bt198.1.toList == bt200.1.toList) != ((Int.tmod (wrap64 (a0)) 128) == (Int.tmod (wrap64 (a1)) 128))) = true then (psalterylaw37_TunerApart.j0 k l2 a3 a4 true) else (if (Int.tmod (wrap64 (a0)) 128) < (Int.tmod (wrap64 (a1)) 128) then (psalterylaw37_TunerApart.j0 k l2 a3 a4 (decide (bt202.1 ≥ bt204.1))) else (psalterylaw37_TunerApart.j0 k l2 a3 a4 false))))))) = some r := by rw [if_pos rfl] at H; exact H
    clear H
    have H := H1
    clear H1
    replace H := Option.bind_eq_some_iff.mp H
    obtain ⟨⟨t198, t199⟩, A80, H⟩ := H
    replace H : ((tuner_Name.f (Int.tmod (wrap64 (a1)) 128)).bind fun bt200 => ((tuner_Pitch.f (Int.tmod (wrap64 (a0)) 128)).bind fun bt202 => ((tuner_Pitch.f (Int.tmod (wrap64 (a1)) 128)).bind fun bt204 => (if ((t198.toList == bt200.1.toList) != ((Int.tmod (wrap64 (a0)) 128) == (Int.tmod (wrap64 (a1)) 128))) = true then (psalterylaw37_TunerApart.j0 k l2 a3 a4 true) else (if (Int.tmod (wrap64 (a0)) 128) < (Int.tmod (wrap64 (a1)) 128) then (psalterylaw37_TunerApart.j0 k l2 a3 a4 (decide (bt202.1 ≥ bt204.1))) else (psalterylaw37_TunerApart.j0 k l2 a3 a4 false)))))) = some r := H
    have A8 := Aside0.mk A80
    clear A80
    replace H := Option.bind_eq_some_iff.mp H
    obtain ⟨⟨t200, t201⟩, A90, H⟩ := H
    replace H : ((tuner_Pitch.f (Int.tmod (wrap64 (a0)) 128)).bind fun bt202 => ((tuner_Pitch.f (Int.tmod (wrap64 (a1)) 128)).bind fun bt204 => (if ((t198.toList == t200.toList) != ((Int.tmod (wrap64 (a0)) 128) == (Int.tmod (wrap64 (a1)) 128))) = true then (psalterylaw37_TunerApart.j0 k l2 a3 a4 true) else (if (Int.tmod (wrap64 (a0)) 128) < (Int.tmod (wrap64 (a1)) 128) then (psalterylaw37_TunerApart.j0 k l2 a3 a4 (decide (bt202.1 ≥ bt204.1))) else (psalterylaw37_TunerApart.j0 k l2 a3 a4 false))))) = some r := H
    have A9 := Aside0.mk A90
    clear A90
    replace H := Option.bind_eq_some_iff.mp H
    obtain ⟨⟨t202, t203⟩, A100, H⟩ := H
    replace H : ((tuner_Pitch.f (Int.tmod (wrap64 (a1)) 128)).bind fun bt204 => (if ((t198.toList == t200.toList) != ((Int.tmod (wrap64 (a0)) 128) == (Int.tmod (wrap64 (a1)) 128))) = true then (psalterylaw37_TunerApart.j0 k l2 a3 a4 true) else (if (Int.tmod (wrap64 (a0)) 128) < (Int.tmod (wrap64 (a1)) 128) then (psalterylaw37_TunerApart.j0 k l2 a3 a4 (decide (t202 ≥ bt204.1))) else (psalterylaw37_TunerApart.j0 k l2 a3 a4 false)))) = some r := H
    have A10 := Aside0.mk A100
    clear A100
    replace H := Option.bind_eq_some_iff.mp H
    obtain ⟨⟨t204, t205⟩, A110, H⟩ := H
    replace H : (if ((t198.toList == t200.toList) != ((Int.tmod (wrap64 (a0)) 128) == (Int.tmod (wrap64 (a1)) 128))) = true then (psalterylaw37_TunerApart.j0 k l2 a3 a4 true) else (if (Int.tmod (wrap64 (a0)) 128) < (Int.tmod (wrap64 (a1)) 128) then (psalterylaw37_TunerApart.j0 k l2 a3 a4 (decide (t202 ≥ t204))) else (psalterylaw37_TunerApart.j0 k l2 a3 a4 false))) = some r := H
    have A11 := Aside0.mk A110
    clear A110
    have HC12 := Aside0.mk H
    clear H
    go_enter Tryd.func4, Tryd.ntmps4
    go_upto_region 8 with (first | (go_at_call 8; (with_reducible refine (psalterylaw37_alive.calls true _ (tab_below HT.out (by repeat (first | (with_reducible first | exact HB.out | apply below_alloc | apply pw_below_drewN | apply below_drew1) | exact HB.out))) A6.out).mono ?_); rintro e w13 ⟨rfl, hb⟩; have n0_ := Aside0.mk (below_step (by repeat (first | (with_reducible first | exact HB.out | apply below_alloc | apply pw_below_drewN | apply below_drew1) | exact HB.out)) hb); clear HB; have HB := n0_; clear n0_; (try clear hb); (try clear hb2); (try clear hk); (try clear hi)) | (go_at_call 10; (with_reducible refine (tuner_Name.calls (Int.tmod (wrap64 (a0)) 128) t198 t199 _ (tab_below HT.out (by repeat (first | (with_reducible first | exact HB.out | apply below_alloc | apply pw_below_drewN | apply below_drew1) | exact HB.out))) A8.out).mono ?_); rintro e w14 ⟨rfl, hb⟩; have n0_ := Aside0.mk (below_step (by repeat (first | (with_reducible first | exact HB.out | apply below_alloc | apply pw_below_drewN | apply below_drew1) | exact HB.out)) hb); clear HB; have HB := n0_; clear n0_; (try clear hb); (try clear hb2); (try clear hk); (try clear hi)) | (go_at_call 10; (with_reducible refine (tuner_Name.calls (Int.tmod (wrap64 (a1)) 128) t200 t201 _ (tab_below HT.out (by repeat (first | (with_reducible first | exact HB.out | apply below_alloc | apply pw_below_drewN | apply below_drew1) | exact HB.out))) A9.out).mono ?_); rintro e w15 ⟨rfl, hb⟩; have n0_ := Aside0.mk (below_step (by repeat (first | (with_reducible first | exact HB.out | apply below_alloc | apply pw_below_drewN | apply below_drew1) | exact HB.out)) hb); clear HB; have HB := n0_; clear n0_; (try clear hb); (try clear hb2); (try clear hk); (try clear hi)) | (go_at_call 9; (with_reducible refine (tuner_Pitch.calls (Int.tmod (wrap64 (a0)) 128) t202 t203 _ A10.out).mono ?_); rintro e w' ⟨rfl, ⟨nd, rfl⟩⟩; (try first | exact ⟨rfl, _, World.drewN_drewN _ _ _⟩ | exact ⟨rfl, _, Eq.trans (World.drewN_drewN _ _ _) (congrArg (World.drewN _) (Nat.add_assoc _ _ _))⟩)) | (go_at_call 9; (with_reducible refine (tuner_Pitch.calls (Int.tmod (wrap64 (a1)) 128) t204 t205 _ A11.out).mono ?_); rintro e w' ⟨rfl, ⟨nd, rfl⟩⟩; (try first | exact ⟨rfl, _, World.drewN_drewN _ _ _⟩ | exact ⟨rfl, _, Eq.trans (World.drewN_drewN _ _ _) (congrArg (World.drewN _) (Nat.add_assoc _ _ _))⟩)))
    repeat (go_quiet (first | (go_at_call 8; (with_reducible refine (psalterylaw37_alive.calls true _ (tab_below HT.out (by repeat (first | (with_reducible first | exact HB.out | apply below_alloc | apply pw_below_drewN | apply below_drew1) | exact HB.out))) A6.out).mono ?_); rintro e w13 ⟨rfl, hb⟩; have n0_ := Aside0.mk (below_step (by repeat (first | (with_reducible first | exact HB.out | apply below_alloc | apply pw_below_drewN | apply below_drew1) | exact HB.out)) hb); clear HB; have HB := n0_; clear n0_; (try clear hb); (try clear hb2); (try clear hk); (try clear hi)) | (go_at_call 10; (with_reducible refine (tuner_Name.calls (Int.tmod (wrap64 (a0)) 128) t198 t199 _ (tab_below HT.out (by repeat (first | (with_reducible first | exact HB.out | apply below_alloc | apply pw_below_drewN | apply below_drew1) | exact HB.out))) A8.out).mono ?_); rintro e w14 ⟨rfl, hb⟩; have n0_ := Aside0.mk (below_step (by repeat (first | (with_reducible first | exact HB.out | apply below_alloc | apply pw_below_drewN | apply below_drew1) | exact HB.out)) hb); clear HB; have HB := n0_; clear n0_; (try clear hb); (try clear hb2); (try clear hk); (try clear hi)) | (go_at_call 10; (with_reducible refine (tuner_Name.calls (Int.tmod (wrap64 (a1)) 128) t200 t201 _ (tab_below HT.out (by repeat (first | (with_reducible first | exact HB.out | apply below_alloc | apply pw_below_drewN | apply below_drew1) | exact HB.out))) A9.out).mono ?_); rintro e w15 ⟨rfl, hb⟩; have n0_ := Aside0.mk (below_step (by repeat (first | (with_reducible first | exact HB.out | apply below_alloc | apply pw_below_drewN | apply below_drew1) | exact HB.out)) hb); clear HB; have HB := n0_; clear n0_; (try clear hb); (try clear hb2); (try clear hk); (try clear hi)) | (go_at_call 9; (with_reducible refine (tuner_Pitch.calls (Int.tmod (wrap64 (a0)) 128) t202 t203 _ A10.out).mono ?_); rintro e w' ⟨rfl, ⟨nd, rfl⟩⟩; (try first | exact ⟨rfl, _, World.drewN_drewN _ _ _⟩ | exact ⟨rfl, _, Eq.trans (World.drewN_drewN _ _ _) (congrArg (World.drewN _) (Nat.add_assoc _ _ _))⟩)) | (go_at_call 9; (with_reducible refine (tuner_Pitch.calls (Int.tmod (wrap64 (a1)) 128) t204 t205 _ A11.out).mono ?_); rintro e w' ⟨rfl, ⟨nd, rfl⟩⟩; (try first | exact ⟨rfl, _, World.drewN_drewN _ _ _⟩ | exact ⟨rfl, _, Eq.trans (World.drewN_drewN _ _ _) (congrArg (World.drewN _) (Nat.add_assoc _ _ _))⟩))); go_upto_region 8 with (first | (go_at_call 8; (with_reducible refine (psalterylaw37_alive.calls true _ (tab_below HT.out (by repeat (first | (with_reducible first | exact HB.out | apply below_alloc | apply pw_below_drewN | apply below_drew1) | exact HB.out))) A6.out).mono ?_); rintro e w13 ⟨rfl, hb⟩; have n0_ := Aside0.mk (below_step (by repeat (first | (with_reducible first | exact HB.out | apply below_alloc | apply pw_below_drewN | apply below_drew1) | exact HB.out)) hb); clear HB; have HB := n0_; clear n0_; (try clear hb); (try clear hb2); (try clear hk); (try clear hi)) | (go_at_call 10; (with_reducible refine (tuner_Name.calls (Int.tmod (wrap64 (a0)) 128) t198 t199 _ (tab_below HT.out (by repeat (first | (with_reducible first | exact HB.out | apply below_alloc | apply pw_below_drewN | apply below_drew1) | exact HB.out))) A8.out).mono ?_); rintro e w14 ⟨rfl, hb⟩; have n0_ := Aside0.mk (below_step (by repeat (first | (with_reducible first | exact HB.out | apply below_alloc | apply pw_below_drewN | apply below_drew1) | exact HB.out)) hb); clear HB; have HB := n0_; clear n0_; (try clear hb); (try clear hb2); (try clear hk); (try clear hi)) | (go_at_call 10; (with_reducible refine (tuner_Name.calls (Int.tmod (wrap64 (a1)) 128) t200 t201 _ (tab_below HT.out (by repeat (first | (with_reducible first | exact HB.out | apply below_alloc | apply pw_below_drewN | apply below_drew1) | exact HB.out))) A9.out).mono ?_); rintro e w15 ⟨rfl, hb⟩; have n0_ := Aside0.mk (below_step (by repeat (first | (with_reducible first | exact HB.out | apply below_alloc | apply pw_below_drewN | apply below_drew1) | exact HB.out)) hb); clear HB; have HB := n0_; clear n0_; (try clear hb); (try clear hb2); (try clear hk); (try clear hi)) | (go_at_call 9; (with_reducible refine (tuner_Pitch.calls (Int.tmod (wrap64 (a0)) 128) t202 t203 _ A10.out).mono ?_); rintro e w' ⟨rfl, ⟨nd, rfl⟩⟩; (try first | exact ⟨rfl, _, World.drewN_drewN _ _ _⟩ | exact ⟨rfl, _, Eq.trans (World.drewN_drewN _ _ _) (congrArg (World.drewN _) (Nat.add_assoc _ _ _))⟩)) | (go_at_call 9; (with_reducible refine (tuner_Pitch.calls (Int.tmod (wrap64 (a1)) 128) t204 t205 _ A11.out).mono ?_); rintro e w' ⟨rfl, ⟨nd, rfl⟩⟩; (try first | exact ⟨rfl, _, World.drewN_drewN _ _ _⟩ | exact ⟨rfl, _, Eq.trans (World.drewN_drewN _ _ _) (congrArg (World.drewN _) (Nat.add_assoc _ _ _))⟩))))
    (try simp only [Act.put, List.setIfInBounds_toArray, List.set_cons_zero, List.set_cons_succ])
    go_cut [71] (fun v71 wc => ∃ (kq : Nat) (x71_11 : Bool), v71 = .bool x71_11 ∧ Aside0 (psalterylaw37_TunerApart.j0 kq l2 a3 a4 x71_11 = some r) ∧ Aside0 (kq ≤ k) ∧ Aside0 (Below w.heap.size w wc))
    case first =>
      have H := HC12.out
      clear HC12
      by_cases c16 : ((t198.toList == t200.toList) != ((Int.tmod (wrap64 (a0)) 128) == (Int.tmod (wrap64 (a1)) 128))) = true
      · rw [if_pos c16] at H
        have c16b0 : ((t198.toList == t200.toList) != ((Int.tmod (wrap64 (a0)) 128) == (Int.tmod (wrap64 (a1)) 128))) = true := c16
        (try (have c16b1 : decide ((t198.toList == t200.toList) = ((Int.tmod (wrap64 (a0)) 128) == (Int.tmod (wrap64 (a1)) 128))) = false := by simpa using c16))
        (try (have c16b2 : ((t198.toList == t200.toList) == ((Int.tmod (wrap64 (a0)) 128) == (Int.tmod (wrap64 (a1)) 128))) = false := by simpa using c16))
        (try (have c16b3 : ¬ ((t198.toList == t200.toList) = ((Int.tmod (wrap64 (a0)) 128) == (Int.tmod (wrap64 (a1)) 128))) := by simpa using c16))
        clear c16
        (first | rw [c16b0] | (simp only [i64_w, i32_w]; rw [c16b0]) | skip)
        have H' := Aside0.mk H
        clear H
        go_wp2
        repeat (go_quiet (fail); try go_wp2)
        go_meet
        case rel => exact ⟨_, (true), (by first | rfl | (simp; done) | (simp [*]; done)), H', ⟨by first | omega | exact Nat.le_refl _⟩, ⟨by repeat (first | (with_reducible first | exact HB.out | apply below_alloc | apply pw_below_drewN | apply below_drew1) | exact HB.out)⟩⟩
      · rw [if_neg c16] at H
        have c16b0 : ((t198.toList == t200.toList) != ((Int.tmod (wrap64 (a0)) 128) == (Int.tmod (wrap64 (a1)) 128))) = false := by simpa using c16
        (try (have c16b1 : decide ((t198.toList == t200.toList) = ((Int.tmod (wrap64 (a0)) 128) == (Int.tmod (wrap64 (a1)) 128))) = true := by simpa using c16))
        (try (have c16b2 : ((t198.toList == t200.toList) == ((Int.tmod (wrap64 (a0)) 128) == (Int.tmod (wrap64 (a1)) 128))) = true := by simpa using c16))
        clear c16
        (first | rw [c16b0] | (simp only [i64_w, i32_w]; rw [c16b0]) | skip)
        by_cases c17 : (Int.tmod (wrap64 (a0)) 128) < (Int.tmod (wrap64 (a1)) 128)
        · rw [if_pos c17] at H
          have c17b0 : decide ((Int.tmod (wrap64 (a0)) 128) < (Int.tmod (wrap64 (a1)) 128)) = true := decide_eq_true c17
          clear c17
          have H' := Aside0.mk H
          clear H
          go_wp2
          repeat (go_quiet (fail); try go_wp2)
          go_meet
          case rel => exact ⟨_, (decide (t202 ≥ t204)), (by first | rfl | (simp; done) | (simp [*]; done)), H', ⟨by first | omega | exact Nat.le_refl _⟩, ⟨by repeat (first | (with_reducible first | exact HB.out | apply below_alloc | apply pw_below_drewN | apply below_drew1) | exact HB.out)⟩⟩
        · rw [if_neg c17] at H
          have c17b0 : decide ((Int.tmod (wrap64 (a0)) 128) < (Int.tmod (wrap64 (a1)) 128)) = false := decide_eq_false c17
          clear c17
          have H' := Aside0.mk H
          clear H
          go_wp2
          repeat (go_quiet (fail); try go_wp2)
          go_meet
          case rel => exact ⟨_, (false), (by first | rfl | (simp; done) | (simp [*]; done)), H', ⟨by first | omega | exact Nat.le_refl _⟩, ⟨by repeat (first | (with_reducible first | exact HB.out | apply below_alloc | apply pw_below_drewN | apply below_drew1) | exact HB.out)⟩⟩
    case rest =>
      clear HC12
      try clear c1
      try clear c2
      try clear p2
      try clear c4
      try clear p6
      try clear c7
      try clear c16
      try clear c16b0
      try clear c16b1
      try clear c16b2
      try clear c17
      try clear c17b0
      obtain ⟨kq, x71_11, rfl, HA, HJ11, HB⟩ := hcut
      cases kq with
      | zero => exact absurd HA.out (by simp [psalterylaw37_TunerApart.j0])
      | succ kj11 =>
        have H := HA.out
        clear HA
        simp only [psalterylaw37_TunerApart.j0] at H
        by_cases c18 : x71_11 = true
        · subst c18
          have H1 : (some false) = some r := by rw [if_pos rfl] at H; exact H
          clear H
          have H := H1
          clear H1
          obtain rfl := Option.some.inj H
          go_wp2
          repeat (go_quiet (fail); try go_wp2)
          go_ret
          exact ⟨by first | rfl | (simp [errW_none, errW_some] <;> rfl) | (simp [*, errW_none, errW_some] <;> rfl), by repeat (first | (with_reducible first | exact HB.out | apply below_alloc | apply pw_below_drewN | apply below_drew1) | exact HB.out)⟩
        · replace c18 := Bool.eq_false_iff.mpr c18
          subst c18
          have H1 : (if (l2.length : Int) > 100 then (psalterylaw37_TunerApart.j1 kj11 l2 a3 a4 true) else (psalterylaw37_TunerApart.j1 kj11 l2 a3 a4 ((l2.length : Int) == 0))) = some r := by rw [if_neg (show ¬ (false = true) by decide)] at H; exact H
          clear H
          have H := H1
          clear H1
          have HC19 := Aside0.mk H
          clear H
          go_upto_region 10 with (fail)
          repeat (go_quiet (fail); go_upto_region 10 with (fail))
          go_cut [79] (fun v79 wc => ∃ (kq : Nat) (x79_18 : Bool), v79 = .bool x79_18 ∧ Aside0 (psalterylaw37_TunerApart.j1 kq l2 a3 a4 x79_18 = some r) ∧ Aside0 (kq ≤ kj11) ∧ Aside0 (Below w.heap.size w wc))
          case first =>
            have H := HC19.out
            clear HC19
            by_cases c20 : (l2.length : Int) > 100
            · rw [if_pos c20] at H
              have c20b0 : decide (100 < (l2.length : Int)) = true := decide_eq_true c20
              have c20b1 : decide (100 < l2.length) = true := decide_eq_true (by omega)
              clear c20
              (first | rw [c20b0] | (simp only [i64_w, i32_w]; rw [c20b0]) | skip)
              have H' := Aside0.mk H
              clear H
              go_wp2
              repeat (go_quiet (fail); try go_wp2)
              go_meet
              case rel => exact ⟨_, (true), (by first | rfl | (simp; done) | (simp [*]; done)), H', ⟨by have := HJ11.out; first | omega | exact Nat.le_refl _⟩, ⟨by repeat (first | (with_reducible first | exact HB.out | apply below_alloc | apply pw_below_drewN | apply below_drew1) | exact HB.out)⟩⟩
            · rw [if_neg c20] at H
              have c20b0 : decide (100 < (l2.length : Int)) = false := decide_eq_false c20
              have c20b1 : decide (100 < l2.length) = false := decide_eq_false (by omega)
              clear c20
              (first | rw [c20b0] | (simp only [i64_w, i32_w]; rw [c20b0]) | skip)
              have H' := Aside0.mk H
              clear H
              go_wp2
              repeat (go_quiet (fail); try go_wp2)
              go_meet
              case rel => exact ⟨_, (((l2.length : Int) == 0)), (by first | rfl | (simp; done) | (simp [*]; done)), H', ⟨by have := HJ11.out; first | omega | exact Nat.le_refl _⟩, ⟨by repeat (first | (with_reducible first | exact HB.out | apply below_alloc | apply pw_below_drewN | apply below_drew1) | exact HB.out)⟩⟩
          case rest =>
            clear HC19
            try clear c1
            try clear c2
            try clear p2
            try clear c4
            try clear p6
            try clear c7
            try clear c16
            try clear c16b0
            try clear c16b1
            try clear c16b2
            try clear c17
            try clear c17b0
            try clear c18
            try clear c20
            try clear c20b0
            try clear c20b1
            try clear p2
            try clear p6
            obtain ⟨kq, x79_18, rfl, HA, HJ18, HB⟩ := hcut
            cases kq with
            | zero => exact absurd HA.out (by simp [psalterylaw37_TunerApart.j1])
            | succ kj18 =>
              have H := HA.out
              clear HA
              simp only [psalterylaw37_TunerApart.j1] at H
              by_cases c21 : x79_18 = true
              · subst c21
                have H1 : (some true) = some r := by rw [if_pos rfl] at H; exact H
                clear H
                have H := H1
                clear H1
                obtain rfl := Option.some.inj H
                go_wp2
                repeat (go_quiet (fail); try go_wp2)
                go_ret
                exact ⟨by first | rfl | (simp [errW_none, errW_some] <;> rfl) | (simp [*, errW_none, errW_some] <;> rfl), by repeat (first | (with_reducible first | exact HB.out | apply below_alloc | apply pw_below_drewN | apply below_drew1) | exact HB.out)⟩
              · replace c21 := Bool.eq_false_iff.mpr c21
                subst c21
                have H1 : (if (wrap64 ((wrap64 (1 + (Int.tmod (wrap64 (a4)) 60))) + 1)) = 0 then (none) else ((tuner_Power.f kj18 l2 (Int.tmod (wrap64 (a3)) (wrap64 ((wrap64 (1 + (Int.tmod (wrap64 (a4)) 60))) + 1))) (wrap64 (1 + (Int.tmod (wrap64 (a4)) 60)))).bind fun bt206 => (psalterylaw37_TunerApart.l0 kj18 l2 bt206.1 bt206.2 0 0))) = some r := by rw [if_neg (show ¬ (false = true) by decide)] at H; exact H
                clear H
                have H := H1
                clear H1
                by_cases c22 : (wrap64 ((wrap64 (1 + (Int.tmod (wrap64 (a4)) 60))) + 1)) = 0
                · rw [if_pos c22] at H
                  exact absurd H (by simp)
                · rw [if_neg c22] at H
                  have c22b0 : ((wrap64 ((wrap64 (1 + (Int.tmod (wrap64 (a4)) 60))) + 1)) == 0) = false := beq_eq_false_iff_ne.mpr c22
                  have c22b1 : ((wrap64 ((wrap64 (1 + (Int.tmod (wrap64 (a4)) 60))) + 1)) != 0) = true := bne_iff_ne.mpr c22
                  replace H := Option.bind_eq_some_iff.mp H
                  obtain ⟨⟨t206, t207⟩, A230, H⟩ := H
                  replace H : (psalterylaw37_TunerApart.l0 kj18 l2 t206 t207 0 0) = some r := H
                  have A23 := Aside0.mk A230
                  clear A230
                  have H' := Aside0.mk H
                  clear H
                  go_wp2_with (first | (go_at_call 16; (with_reducible refine (tuner_Power.calls kj18 _ _ l2 (Int.tmod (wrap64 (a3)) (wrap64 ((wrap64 (1 + (Int.tmod (wrap64 (a4)) 60))) + 1))) (wrap64 (1 + (Int.tmod (wrap64 (a4)) 60))) t206 t207 _ ?side1 ?side2 A23.out).mono ?_); (case side1 => repeat (first | exact (Kd.C_below HR2.out HB.out) | (with_reducible refine Kd.C_alloc ?_ _) | (with_reducible refine Kd.C_drewN ?_ _) | (with_reducible refine Kd.C_drew ?_))); (case side2 => exact HC2.out); rintro e w' ⟨rfl, ⟨nd, rfl⟩⟩; (try first | exact ⟨rfl, _, World.drewN_drewN _ _ _⟩ | exact ⟨rfl, _, Eq.trans (World.drewN_drewN _ _ _) (congrArg (World.drewN _) (Nat.add_assoc _ _ _))⟩)))
                  repeat (go_quiet (first | (go_at_call 16; (with_reducible refine (tuner_Power.calls kj18 _ _ l2 (Int.tmod (wrap64 (a3)) (wrap64 ((wrap64 (1 + (Int.tmod (wrap64 (a4)) 60))) + 1))) (wrap64 (1 + (Int.tmod (wrap64 (a4)) 60))) t206 t207 _ ?side1 ?side2 A23.out).mono ?_); (case side1 => repeat (first | exact (Kd.C_below HR2.out HB.out) | (with_reducible refine Kd.C_alloc ?_ _) | (with_reducible refine Kd.C_drewN ?_ _) | (with_reducible refine Kd.C_drew ?_))); (case side2 => exact HC2.out); rintro e w' ⟨rfl, ⟨nd, rfl⟩⟩; (try first | exact ⟨rfl, _, World.drewN_drewN _ _ _⟩ | exact ⟨rfl, _, Eq.trans (World.drewN_drewN _ _ _) (congrArg (World.drewN _) (Nat.add_assoc _ _ _))⟩))); try go_wp2_with (first | (go_at_call 16; (with_reducible refine (tuner_Power.calls kj18 _ _ l2 (Int.tmod (wrap64 (a3)) (wrap64 ((wrap64 (1 + (Int.tmod (wrap64 (a4)) 60))) + 1))) (wrap64 (1 + (Int.tmod (wrap64 (a4)) 60))) t206 t207 _ ?side1 ?side2 A23.out).mono ?_); (case side1 => repeat (first | exact (Kd.C_below HR2.out HB.out) | (with_reducible refine Kd.C_alloc ?_ _) | (with_reducible refine Kd.C_drewN ?_ _) | (with_reducible refine Kd.C_drew ?_))); (case side2 => exact HC2.out); rintro e w' ⟨rfl, ⟨nd, rfl⟩⟩; (try first | exact ⟨rfl, _, World.drewN_drewN _ _ _⟩ | exact ⟨rfl, _, Eq.trans (World.drewN_drewN _ _ _) (congrArg (World.drewN _) (Nat.add_assoc _ _ _))⟩))))
                  go_loopg [24, 25] kj18 (fun kq v24 v25 w' => ∃ (x24_3 : Int) (x25_3 : Int), v24 = .int .u64 x24_3 ∧ v25 = .int .i64 x25_3 ∧ Aside0 (psalterylaw37_TunerApart.l0 kq l2 t206 t207 x24_3 x25_3 = some r) ∧ Aside0 (kq ≤ kj18) ∧ Aside0 (Below w.heap.size w w'))
                  case atStart => exact ⟨(0), (0), (by first | rfl | (simp; done) | (simp [*]; done)), (by first | rfl | (simp; done) | (simp [*]; done)), H', ⟨Nat.le_refl _⟩, ⟨by repeat (first | (with_reducible first | exact HB.out | apply below_alloc | apply pw_below_drewN | apply below_drew1) | exact HB.out)⟩⟩
                  case round =>
                    clear H'
                    try clear c1
                    try clear c2
                    try clear p2
                    try clear c4
                    try clear p6
                    try clear c7
                    try clear c16
                    try clear c16b0
                    try clear c16b1
                    try clear c16b2
                    try clear c17
                    try clear c17b0
                    try clear c18
                    try clear c20
                    try clear c20b0
                    try clear c20b1
                    try clear c21
                    try clear c22
                    try clear c22b0
                    try clear c22b1
                    try clear p2
                    try clear p6
                    obtain ⟨x24_3, x25_3, rfl, rfl, HA, HK3, HB⟩ := hrel
                    cases gk with
                    | zero => exact absurd HA.out (by simp [psalterylaw37_TunerApart.l0])
                    | succ k3 =>
                      have H := HA.out
                      clear HA
                      simp only [psalterylaw37_TunerApart.l0] at H
                      by_cases c24 : x25_3 < (l2.length : Int)
                      · rw [if_pos c24] at H
                        have c24b0 : decide (x25_3 < (l2.length : Int)) = true := decide_eq_true c24
                        clear c24
                        by_cases c25 : 0 ≤ x25_3
                        · rw [if_pos c25] at H
                          have c25b0 : decide (0 ≤ x25_3) = true := decide_eq_true c25
                          clear c25
                          have H' := Aside0.mk H
                          clear H
                          have p208 : 0 ≤ (x25_3 : Int) := of_decide_eq_true (by first | (with_reducible assumption) | assumption)
                          have q208 : x25_3 < (l2.length : Int) := of_decide_eq_true (by first | (with_reducible assumption) | assumption)
                          obtain ⟨ad208, e208, hx208_0⟩ := Kd.at_int HR2.out x25_3 p208 q208
                          cases e208
                          replace hx208_0 := (HB.out.cell (World.block_lt_of_cell? w _ hx208_0)).trans hx208_0
                          replace p208 := eq_true p208
                          replace q208 := eq_true q208
                          have p209 : 0 ≤ (x25_3 : Int) := of_decide_eq_true (by first | (with_reducible assumption) | assumption)
                          have q209 : x25_3 < (l2.length : Int) := of_decide_eq_true (by first | (with_reducible assumption) | assumption)
                          obtain ⟨ad209, e209, hx209_0⟩ := Kd.at_int HR2.out x25_3 p209 q209
                          obtain rfl : ad208 = ad209 := (by injection e209)
                          replace hx209_0 := (HB.out.cell (World.block_lt_of_cell? w _ hx209_0)).trans hx209_0
                          replace p209 := eq_true p209
                          replace q209 := eq_true q209
                          go_wp2
                          repeat (go_quiet (fail); try go_wp2)
                          go_roundg k3
                          case measure => have := HJ11.out; have := HJ18.out; have := HK3.out; omega
                          case rel => exact ⟨(IntKind.u64.wrap (x24_3 + (IntKind.u64.wrap (wrap64 ((wrap64 (rd l2 x25_3)) * (wrap64 (rd l2 x25_3))))))), (wrap64 (x25_3 + 1)), (by first | rfl | (simp; done) | (simp [*]; done)), (by first | rfl | (simp; done) | (simp [*]; done)), H', ⟨by have := HJ11.out; have := HJ18.out; have := HK3.out; omega⟩, ⟨by repeat (first | (with_reducible first | exact HB.out | apply below_alloc | apply pw_below_drewN | apply below_drew1) | exact HB.out)⟩⟩
                        · rw [if_neg c25] at H
                          exact absurd H (by simp)
                      · rw [if_neg c24] at H
                        have c24b0 : decide (x25_3 < (l2.length : Int)) = false := decide_eq_false c24
                        clear c24
                        by_cases c26 : t207 = 0
                        · rw [if_pos c26] at H
                          have c26b0 : (t207 == 0) = true := beq_iff_eq.mpr c26
                          have c26b1 : (t207 != 0) = false := bne_eq_false_iff_eq.mpr c26
                          clear c26
                          obtain rfl := Option.some.inj H
                          go_wp2
                          repeat (go_quiet (fail); try go_wp2)
                          go_ret
                          exact ⟨by first | rfl | (simp [errW_none, errW_some] <;> rfl) | (simp [*, errW_none, errW_some] <;> rfl), by repeat (first | (with_reducible first | exact HB.out | apply below_alloc | apply pw_below_drewN | apply below_drew1) | exact HB.out)⟩
                        · rw [if_neg c26] at H
                          have c26b0 : (t207 == 0) = false := beq_eq_false_iff_ne.mpr c26
                          have c26b1 : (t207 != 0) = true := bne_iff_ne.mpr c26
                          obtain rfl := Option.some.inj H
                          go_wp2
                          repeat (go_quiet (fail); try go_wp2)
                          go_ret
                          exact ⟨by first | rfl | (simp [errW_none, errW_some] <;> rfl) | (simp [*, errW_none, errW_some] <;> rfl), by repeat (first | (with_reducible first | exact HB.out | apply below_alloc | apply pw_below_drewN | apply below_drew1) | exact HB.out)⟩
  · replace c7 := Bool.eq_false_iff.mpr c7
    subst c7
    have H1 : (some false) = some r := by rw [if_neg (show ¬ (false = true) by decide)] at H; exact H
    clear H
    have H := H1
    clear H1
    obtain rfl := Option.some.inj H
    go_enter Tryd.func4, Tryd.ntmps4
    go_wp2_with (first | (go_at_call 8; (with_reducible refine (psalterylaw37_alive.calls false _ (tab_below HT.out (by repeat (first | (with_reducible first | exact HB.out | apply below_alloc | apply pw_below_drewN | apply below_drew1) | exact HB.out))) A6.out).mono ?_); rintro e w27 ⟨rfl, hb⟩; have n0_ := Aside0.mk (below_step (by repeat (first | (with_reducible first | exact HB.out | apply below_alloc | apply pw_below_drewN | apply below_drew1) | exact HB.out)) hb); clear HB; have HB := n0_; clear n0_; (try clear hb); (try clear hb2); (try clear hk); (try clear hi)))
    repeat (go_quiet (first | (go_at_call 8; (with_reducible refine (psalterylaw37_alive.calls false _ (tab_below HT.out (by repeat (first | (with_reducible first | exact HB.out | apply below_alloc | apply pw_below_drewN | apply below_drew1) | exact HB.out))) A6.out).mono ?_); rintro e w27 ⟨rfl, hb⟩; have n0_ := Aside0.mk (below_step (by repeat (first | (with_reducible first | exact HB.out | apply below_alloc | apply pw_below_drewN | apply below_drew1) | exact HB.out)) hb); clear HB; have HB := n0_; clear n0_; (try clear hb); (try clear hb2); (try clear hk); (try clear hi))); try go_wp2_with (first | (go_at_call 8; (with_reducible refine (psalterylaw37_alive.calls false _ (tab_below HT.out (by repeat (first | (with_reducible first | exact HB.out | apply below_alloc | apply pw_below_drewN | apply below_drew1) | exact HB.out))) A6.out).mono ?_); rintro e w27 ⟨rfl, hb⟩; have n0_ := Aside0.mk (below_step (by repeat (first | (with_reducible first | exact HB.out | apply below_alloc | apply pw_below_drewN | apply below_drew1) | exact HB.out)) hb); clear HB; have HB := n0_; clear n0_; (try clear hb); (try clear hb2); (try clear hk); (try clear hi))))
    go_ret
    exact ⟨by first | rfl | (simp [errW_none, errW_some] <;> rfl) | (simp [*, errW_none, errW_some] <;> rfl), by repeat (first | (with_reducible first | exact HB.out | apply below_alloc | apply pw_below_drewN | apply below_drew1) | exact HB.out)⟩

/-- THE ONE PURE STATEMENT of psalterylaw37_TunerApart: yours. -/
def psalterylaw37_TunerApart.Pure : Prop := ∀ (a0 : Int) (a1 : Int) (l2 : List Int) (a3 : Int) (a4 : Int), (Lit.int .u8 a0).wf = true → (Lit.int .u8 a1).wf = true → l2.length ≤ maxLen → l2.length * 2 ≤ 140737488351232 → (∀ x ∈ l2, (Lit.int .i16 x).wf = true) → (Lit.int .u8 a3).wf = true → (Lit.int .u8 a4).wf = true → ∃ k, psalterylaw37_TunerApart.f k a0 a1 l2 a3 a4 = some true
theorem psalterylaw37_TunerApart.walk (P : psalterylaw37_TunerApart.Pure) (a0 : Int) (a1 : Int) (a2 : Option Addr) (len2 cap2 : Nat) (z2 : List Int) (a3 : Int) (a4 : Int) (w : World) (ht : Tab w) (w0 : (Lit.int .u8 a0).wf = true) (w1 : (Lit.int .u8 a1).wf = true) (w2 : (a2 = none ∧ len2 = 0 ∧ cap2 = 0 ∧ z2 = []) ∨ ∃ x, a2 = some x ∧ len2 ≤ cap2 ∧ cap2 ≤ maxLen ∧ z2.length = cap2 ∧ (∀ i, i < z2.length → w.cell? (x.add i) = some (.int .i16 (z2.getD i 0))) ∧ ∀ n ∈ z2, (Lit.int .i16 n).wf = true) (y2 : len2 * 2 ≤ 140737488351232) (w3 : (Lit.int .u8 a3).wf = true) (w4 : (Lit.int .u8 a4).wf = true) :
    Calls Tryd.prog 4 #[.int .u8 a0, .int .u8 a1, .slice a2 len2 cap2, .int .u8 a3, .int .u8 a4] w fun e w' => e = .returned (.bool true) ∧ Below w.heap.size w w' := by
  obtain ⟨l2, rfl, hr2, hm2, hw2, hc2⟩ := ReadsInt.ofRowC w2
  obtain ⟨k, h⟩ := P a0 a1 l2 a3 a4 w0 w1 hm2 y2 hw2 w3 w4
  refine (psalterylaw37_TunerApart.calls k a0 a1 _ _ l2 a3 a4 true w ht (Kd.C_of_reads (d := (0 : Int)) (h1 := fun _ => rfl) hr2) hc2 h).mono ?_
  rintro e w' ⟨rfl, hd⟩
  exact ⟨rfl, hd⟩

end Go.Proofs.YtiiebkfeodmefaaDoor.PTuner
