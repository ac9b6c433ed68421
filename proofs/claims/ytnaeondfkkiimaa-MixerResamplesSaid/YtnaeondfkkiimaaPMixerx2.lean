/- Contracts of the functions that the law Mixer reaches: each Go function as a Lean function, and that the Go text comes to it. Written by programs (wip/tools), out of the program's own loaded form. -/
import Derived.Test.YtnaeondfkkiimaaClo
import Derived.Test.YtnaeondfkkiimaaPMixerx0
import Derived.Test.YtnaeondfkkiimaaPMixerx1
namespace Go.Proofs.Ytnaeondfkkiimaa.PMixer
open Go.RowKit Go.Proofs.YtnaeondfkkiimaaW.PrintWords Go.Proofs.YtnaeondfkkiimaaW.PrintLast Go.Proofs.YtnaeondfkkiimaaW.PrintMore
attribute [local go_sem] max2_int min2_int max_two min_two max_three min_three max_four min_four   -- for this text's walks alone
set_option linter.unusedVariables false
set_option linter.unusedSimpArgs false

/-! ### mixer_Mix: function 41 -/
def mixer_Mix.l0 : Nat → Int → Int → List Int → List Int → List Int → Int → Int → Option (List Int)
  | 0, _, _, _, _, _, _, _ => none
  | k + 1, x2, x3, x9, x10, x11, x24, x25 => if x25 < x24 then ((mixer_of_clo1.f x25 x10).bind fun t135 => ((mixer_of_clo1.f x25 x11).bind fun t136 => ((mixer_share.f (wrap64 ((wrap64 (t135 * (wrap64 (x2)))) + (wrap64 (t136 * (wrap64 (x3))))))).bind fun t137 => (if 0 ≤ x25 then (if x25 < (x9.length : Int) then (mixer_Mix.l0 k x2 x3 (x9.set (x25 : Int).toNat t137) x10 x11 x24 (wrap64 (x25 + 1))) else (none)) else (none))))) else (some x9)
def mixer_Mix.f (k : Nat) (l0 : List Int) (l1 : List Int) (a2 : Int) (a3 : Int) : Option (List Int) := if 0 ≤ (mx (l0.length : Int) (l1.length : Int)) then (if (mx (l0.length : Int) (l1.length : Int) : Int).toNat ≤ 140737488355328 then ((some (List.replicate (mx (l0.length : Int) (l1.length : Int) : Int).toNat 0 : List Int)).bind fun y132 => (mixer_Mix.l0 k a2 a3 y132 l0 l1 (y132.length : Int) 0)) else (none)) else (none)
theorem mixer_Mix.mono_l : ∀ k, (∀ y0 y1 y2 y3 y4 y5 y6, LeO (mixer_Mix.l0 k y0 y1 y2 y3 y4 y5 y6) (mixer_Mix.l0 (k + 1) y0 y1 y2 y3 y4 y5 y6))
  | 0 => fun _ _ _ _ _ _ _ r h => by simp [mixer_Mix.l0] at h
  | k + 1 => by
    have ih0 := mixer_Mix.mono_l k
    · intro y0 y1 y2 y3 y4 y5 y6
      unfold mixer_Mix.l0
      repeat' first
      | (with_reducible exact ih0 _ _ _ _ _ _ _)
      | (with_reducible exact LeO.refl _)
      | (with_reducible exact LeO.none _)
      | (with_reducible refine LeO.ite ?_ ?_)
      | (with_reducible refine LeO.bind ?_ (fun _ => ?_))
      | exact ih0 _ _ _ _ _ _ _
      | exact LeO.none _
      | refine LeO.ite ?_ ?_
      | refine LeO.bind ?_ (fun _ => ?_)
theorem mixer_Mix.mono : ∀ a0 a1 a2 a3 k, LeO (mixer_Mix.f k a0 a1 a2 a3) (mixer_Mix.f (k + 1) a0 a1 a2 a3) := by
  intro a0 a1 a2 a3 k
  have ih0 := mixer_Mix.mono_l k
  unfold mixer_Mix.f
  repeat' first
      | (with_reducible exact ih0 _ _ _ _ _ _ _)
      | (with_reducible exact LeO.refl _)
      | (with_reducible exact LeO.none _)
      | (with_reducible refine LeO.ite ?_ ?_)
      | (with_reducible refine LeO.bind ?_ (fun _ => ?_))
      | exact ih0 _ _ _ _ _ _ _
      | exact LeO.none _
      | refine LeO.ite ?_ ?_
      | refine LeO.bind ?_ (fun _ => ?_)
set_option maxHeartbeats 8000000 in
set_option maxRecDepth 100000 in
theorem mixer_Mix.calls (k : Nat) (A0 : Option Addr) (c0 : Nat) (l0 : List Int) (A1 : Option Addr) (c1 : Nat) (l1 : List Int) (a2 : Int) (a3 : Int) (r : List Int) (w : World) (hr0 : Kd.C (Kd.int .i16) w A0 l0.length l0) (hc0 : l0.length ≤ c0) (hr1 : Kd.C (Kd.int .i16) w A1 l1.length l1) (hc1 : l1.length ≤ c1) (h : mixer_Mix.f k l0 l1 a2 a3 = some r) :
    Calls Try.prog 41 #[.slice A0 l0.length c0, .slice A1 l1.length c1, .int .i16 a2, .int .i16 a3] w fun e w' => ∃ v0_ : Value, e = .returned (v0_) ∧ Kd.R (Kd.int .i16) 36 w' w.heap.size (fun _ => True) v0_ r ∧ Below w.heap.size w w' := by
  have HR0 := Aside0.mk hr0
  have HC0 := Aside0.mk hc0
  clear hr0 hc0
  have HR1 := Aside0.mk hr1
  have HC1 := Aside0.mk hc1
  clear hr1 hc1
  have HB := Aside0.mk (Below.refl w.heap.size w)
  have H : (if 0 ≤ (mx (l0.length : Int) (l1.length : Int)) then (if (mx (l0.length : Int) (l1.length : Int) : Int).toNat ≤ 140737488355328 then ((some (List.replicate (mx (l0.length : Int) (l1.length : Int) : Int).toNat 0 : List Int)).bind fun y132 => (mixer_Mix.l0 k a2 a3 y132 l0 l1 (y132.length : Int) 0)) else (none)) else (none)) = some r := h
  clear h
  obtain ⟨ji5, hji5⟩ : ∃ j_ : Int, (mx (l0.length : Int) (l1.length : Int)) = j_ := ⟨_, rfl⟩
  replace H : (if 0 ≤ (ji5) then (if (ji5 : Int).toNat ≤ 140737488355328 then ((some (List.replicate (ji5 : Int).toNat 0 : List Int)).bind fun y132 => (mixer_Mix.l0 k a2 a3 y132 l0 l1 (y132.length : Int) 0)) else (none)) else (none)) = some r := by first | (rw [hji5] at H; exact H) | (simp only [hji5] at H ⊢; exact H)
  (try (have hji5l : 0 ≤ ji5 := by (rw [← hji5]; unfold mx; (repeat' split) <;> omega)))
  (try (have hji5m : 0 ≤ ji5 := by omega))
  have hji5_ : (if (l0.length : Int) < (l1.length : Int) then (l1.length : Int) else (l0.length : Int)) = ji5 := hji5
  have hji5_n : (if l0.length < l1.length then (l1.length : Int) else (l0.length : Int)) = ji5 := by
    rw [← hji5_]
    by_cases h_ : l0.length < l1.length
    · rw [if_pos h_, if_pos (Int.ofNat_lt.2 h_)]
    · rw [if_neg h_, if_neg (fun e_ => h_ (Int.ofNat_lt.1 e_))]
  by_cases c6 : 0 ≤ (ji5)
  · rw [if_pos c6] at H
    have c6b0 := eq_true c6
    have c6b1 : decide (0 ≤ (ji5)) = true := decide_eq_true c6
    clear c6
    by_cases c7 : (ji5 : Int).toNat ≤ 140737488355328
    · rw [if_pos c7] at H
      have c7b0 := eq_true c7
      have c7b1 : decide ((ji5 : Int).toNat ≤ 140737488355328) = true := decide_eq_true c7
      clear c7
      obtain ⟨y132, hy132⟩ : ∃ y_ : List Int, y_ = (List.replicate (ji5 : Int).toNat 0) := ⟨_, rfl⟩
      replace H : (mixer_Mix.l0 k a2 a3 y132 l0 l1 (y132.length : Int) 0) = some r := by first | (rw [hy132]; with_reducible exact H) | (have H2_ := (Option.bind_some _ _).symm.trans H; rw [hy132]; with_reducible exact H2_) | (have H2_ := (Option.bind_some _ _).symm.trans H; with_reducible exact H2_) | with_reducible exact H | (rw [hy132]; exact H) | exact H
      have Ny132 := Aside0.mk hy132
      clear hy132
      have H' := Aside0.mk H
      clear H
      go_enter Try.func41, Try.ntmps41
      go_wp2_with (first | ((with_reducible refine gate_dst (N := 18) rfl ?_); refine Kd.R_make (Kd.int .i16) _ 36 rfl (N := 18) rfl 22 _ _ rfl ji5 rfl rfl Try.underlying22 (.int .i16 0) 2 info36 rfl (by decide) (by omega) 0 (ok := fun _ => True) (okp := fun _ => True) rfl (fun _ hk => hk) trivial (of_decide_eq_true (by first | (with_reducible assumption) | assumption)) (Nat.le_trans (Nat.mul_le_mul_right _ (of_decide_eq_true (by first | (with_reducible assumption) | assumption) : ji5.toNat ≤ 140737488355328)) (by omega)) (Below.refl _ _) (Nat.le_refl _) ?_; intro v133 w8 ho9 hb hg_ hnew_; clear hg_ hnew_; (first | rw [← Ny132.out] at ho9 | (simp only [Int.reduceToNat] at ho9; rw [← Ny132.out] at ho9)); have n0_ := Aside0.mk (Kd.R_lower ho9 (below_size (by repeat (first | (with_reducible first | exact HB.out | apply below_alloc | apply pw_below_drewN | apply below_drew1) | exact HB.out)))); have n1_ := Aside0.mk (below_step (by repeat (first | (with_reducible first | exact HB.out | apply below_alloc | apply pw_below_drewN | apply below_drew1) | exact HB.out)) hb); clear HB; have HO134 := n0_; have HB := n1_; clear n0_ n1_; clear hb ho9; obtain ⟨Ao10, co10, eo10⟩ := Kd.R_slice HO134.out; subst eo10) | (go_at_call 59; (with_reducible refine (mixer_of.calls A0 l0.length c0 _).mono ?_); rintro e w91 ⟨b1, rfl, hb9, hw9⟩; have n0_ := Aside0.mk (Kd.R_below HO134.out hw9); have n1_ := Aside0.mk (below_step HB.out hw9); have HX1 := Aside0.mk hb9; clear HB HO134 hb9 hw9; have HB := n1_; have HO134 := n0_; clear n0_ n1_) | (go_at_call 59; (with_reducible refine (mixer_of.calls A1 l1.length c1 _).mono ?_); rintro e w92 ⟨b2, rfl, hb9, hw9⟩; have n0_ := Aside0.mk (Kd.R_below HO134.out hw9); have n1_ := Aside0.mk (below_step HB.out hw9); have x1_ : Aside0 (w92.heap[b1]? = some (.cells #[.slice A0 l0.length c0] 22 (0, 0))) := ⟨(hw9.block b1 (blk_lt HX1.out)).trans HX1.out⟩; clear HX1; have HX1 := x1_; clear x1_; have HX2 := Aside0.mk hb9; clear HB HO134 hb9 hw9; have HB := n1_; have HO134 := n0_; clear n0_ n1_))
      go_loopg [25] k (fun kq v25 w' => ∃ (x9_1 : List Int) (x25_1 : Int), v25 = .int .i64 x25_1 ∧ Aside0 (mixer_Mix.l0 kq a2 a3 x9_1 l0 l1 (y132.length : Int) x25_1 = some r) ∧ Aside0 (kq ≤ k) ∧ Aside0 (Kd.R (Kd.int .i16) 36 w' w.heap.size (fun _ => True) (.slice Ao10 y132.length co10) x9_1) ∧ Aside0 (Below w.heap.size w w') ∧ Aside0 (w'.heap[b1]? = some (.cells #[.slice A0 l0.length c0] 22 (0, 0))) ∧ Aside0 (w'.heap[b2]? = some (.cells #[.slice A1 l1.length c1] 22 (0, 0))))
      case atStart => exact ⟨(y132), (0), (by first | rfl | (simp; done) | (simp [*]; done)), H', ⟨Nat.le_refl _⟩, ⟨by (with_reducible repeat (first | apply Kd.R_alloc | apply Kd.R_drewN | apply Kd.R_drew)); exact HO134.out⟩, ⟨by repeat (first | (with_reducible first | exact HB.out | apply below_alloc | apply pw_below_drewN | apply below_drew1) | exact HB.out)⟩, ⟨by exact HX1.out⟩, ⟨by exact HX2.out⟩⟩
      case round =>
        clear H'
        try clear c1
        try clear p2
        try clear c4
        try clear c6
        try clear c6b0
        try clear c6b1
        try clear c7
        try clear c7b0
        try clear c7b1
        obtain ⟨x9_1, x25_1, rfl, HA, HK1, HO_9, HB, HX1, HX2⟩ := hrel
        have hl9_1 := (Kd.R_reads' HO_9.out).1
        rw [hl9_1] at HO_9
        (try simp only [hl9_1])
        cases gk with
        | zero => exact absurd HA.out (by simp [mixer_Mix.l0])
        | succ k1 =>
          have H := HA.out
          clear HA
          simp only [mixer_Mix.l0] at H
          by_cases c11 : x25_1 < (y132.length : Int)
          · rw [if_pos c11] at H
            have c11b0 : decide (x25_1 < (y132.length : Int)) = true := decide_eq_true c11
            clear c11
            replace H := Option.bind_eq_some_iff.mp H
            obtain ⟨t135, A120, H⟩ := H
            replace H : ((mixer_of_clo1.f x25_1 l1).bind fun t136 => ((mixer_share.f (wrap64 ((wrap64 (t135 * (wrap64 (a2)))) + (wrap64 (t136 * (wrap64 (a3))))))).bind fun t137 => (if 0 ≤ x25_1 then (if x25_1 < (x9_1.length : Int) then (mixer_Mix.l0 k1 a2 a3 (x9_1.set (x25_1 : Int).toNat t137) l0 l1 (y132.length : Int) (wrap64 (x25_1 + 1))) else (none)) else (none)))) = some r := H
            have A12 := Aside0.mk A120
            clear A120
            replace H := Option.bind_eq_some_iff.mp H
            obtain ⟨t136, A130, H⟩ := H
            replace H : ((mixer_share.f (wrap64 ((wrap64 (t135 * (wrap64 (a2)))) + (wrap64 (t136 * (wrap64 (a3))))))).bind fun t137 => (if 0 ≤ x25_1 then (if x25_1 < (x9_1.length : Int) then (mixer_Mix.l0 k1 a2 a3 (x9_1.set (x25_1 : Int).toNat t137) l0 l1 (y132.length : Int) (wrap64 (x25_1 + 1))) else (none)) else (none))) = some r := H
            have A13 := Aside0.mk A130
            clear A130
            replace H := Option.bind_eq_some_iff.mp H
            obtain ⟨t137, A140, H⟩ := H
            replace H : (if 0 ≤ x25_1 then (if x25_1 < (x9_1.length : Int) then (mixer_Mix.l0 k1 a2 a3 (x9_1.set (x25_1 : Int).toNat t137) l0 l1 (y132.length : Int) (wrap64 (x25_1 + 1))) else (none)) else (none)) = some r := H
            have A14 := Aside0.mk A140
            clear A140
            by_cases c15 : 0 ≤ x25_1
            · rw [if_pos c15] at H
              have c15b0 : decide (0 ≤ x25_1) = true := decide_eq_true c15
              clear c15
              by_cases c16 : x25_1 < (x9_1.length : Int)
              · rw [if_pos c16] at H
                have c16b0 : decide (x25_1 < (x9_1.length : Int)) = true := decide_eq_true c16
                clear c16
                obtain ⟨y138, hy138⟩ : ∃ y_ : List Int, y_ = (x9_1.set (x25_1 : Int).toNat t137) := ⟨_, rfl⟩
                replace H : (mixer_Mix.l0 k1 a2 a3 y138 l0 l1 (y132.length : Int) (wrap64 (x25_1 + 1))) = some r := by first | (rw [hy138]; with_reducible exact H) | (have H2_ := (Option.bind_some _ _).symm.trans H; rw [hy138]; with_reducible exact H2_) | (have H2_ := (Option.bind_some _ _).symm.trans H; with_reducible exact H2_) | with_reducible exact H | (rw [hy138]; exact H) | exact H
                have Ny138 := Aside0.mk hy138
                clear hy138
                have H' := Aside0.mk H
                clear H
                go_wp2_with (first | (refine goesF_ (some 32) rfl rfl Try.func75 (by kernel_rfl) rfl (.tmp 30) #[.pointer (some ⟨b1, 0, none⟩)] #[.int .i64 x25_1, .pointer (some ⟨b1, 0, none⟩)] rfl rfl (by (try simp only [List.map_toArray, List.map_cons, List.map_nil]); first | done | rfl | (simp only [List.length_drop, List.length_take]; rfl)) ?_; (with_reducible refine (mixer_of_clo1.calls x25_1 b1 A0 c0 l0 t135 _ ?side0 ?side1 ?side2 A12.out).mono ?_); (case side0 => exact HX1.out); (case side1 => repeat (first | exact (Kd.C_below HR0.out HB.out) | (with_reducible refine Kd.C_alloc ?_ _) | (with_reducible refine Kd.C_drewN ?_ _) | (with_reducible refine Kd.C_drew ?_))); (case side2 => exact HC0.out); rintro e w' ⟨rfl, ⟨nd, rfl⟩⟩; refine ⟨_, rfl, ?_⟩; (try (rw [drewN_self wr]; generalize hq_ : World.drewN wr _ = wr; have n0_ : Aside0 (Kd.R (Kd.int .i16) 36 wr w.heap.size (fun _ => True) (.slice Ao10 x9_1.length co10) x9_1) := ⟨by rw [← hq_]; exact (by (with_reducible repeat (first | apply Kd.R_alloc | apply Kd.R_drewN | apply Kd.R_drew)); exact HO_9.out)⟩; have n1_ : Aside0 (Below w.heap.size w wr) := ⟨by rw [← hq_]; exact (by repeat (first | (with_reducible first | exact HB.out | apply below_alloc | apply pw_below_drewN | apply below_drew1) | exact HB.out))⟩; have HX1_ : Aside0 (wr.heap[b1]? = some (.cells #[.slice A0 l0.length c0] 22 (0, 0))) := ⟨by rw [← hq_]; exact HX1.out⟩; have HX2_ : Aside0 (wr.heap[b2]? = some (.cells #[.slice A1 l1.length c1] 22 (0, 0))) := ⟨by rw [← hq_]; exact HX2.out⟩; clear HX1; have HX1 := HX1_; clear HX1_; clear HX2; have HX2 := HX2_; clear HX2_; clear HO_9 HB hq_; have HO_9 := n0_; have HB := n1_; clear n0_ n1_))) | (refine goesF_ (some 38) rfl rfl Try.func75 (by kernel_rfl) rfl (.tmp 36) #[.pointer (some ⟨b2, 0, none⟩)] #[.int .i64 x25_1, .pointer (some ⟨b2, 0, none⟩)] rfl rfl (by (try simp only [List.map_toArray, List.map_cons, List.map_nil]); first | done | rfl | (simp only [List.length_drop, List.length_take]; rfl)) ?_; (with_reducible refine (mixer_of_clo1.calls x25_1 b2 A1 c1 l1 t136 _ ?side0 ?side1 ?side2 A13.out).mono ?_); (case side0 => exact HX2.out); (case side1 => repeat (first | exact (Kd.C_below HR1.out HB.out) | (with_reducible refine Kd.C_alloc ?_ _) | (with_reducible refine Kd.C_drewN ?_ _) | (with_reducible refine Kd.C_drew ?_))); (case side2 => exact HC1.out); rintro e w' ⟨rfl, ⟨nd, rfl⟩⟩; refine ⟨_, rfl, ?_⟩; (try (rw [drewN_self wr]; generalize hq_ : World.drewN wr _ = wr; have n0_ : Aside0 (Kd.R (Kd.int .i16) 36 wr w.heap.size (fun _ => True) (.slice Ao10 x9_1.length co10) x9_1) := ⟨by rw [← hq_]; exact (by (with_reducible repeat (first | apply Kd.R_alloc | apply Kd.R_drewN | apply Kd.R_drew)); exact HO_9.out)⟩; have n1_ : Aside0 (Below w.heap.size w wr) := ⟨by rw [← hq_]; exact (by repeat (first | (with_reducible first | exact HB.out | apply below_alloc | apply pw_below_drewN | apply below_drew1) | exact HB.out))⟩; have HX1_ : Aside0 (wr.heap[b1]? = some (.cells #[.slice A0 l0.length c0] 22 (0, 0))) := ⟨by rw [← hq_]; exact HX1.out⟩; have HX2_ : Aside0 (wr.heap[b2]? = some (.cells #[.slice A1 l1.length c1] 22 (0, 0))) := ⟨by rw [← hq_]; exact HX2.out⟩; clear HX1; have HX1 := HX1_; clear HX1_; clear HX2; have HX2 := HX2_; clear HX2_; clear HO_9 HB hq_; have HO_9 := n0_; have HB := n1_; clear n0_ n1_))) | ((with_reducible refine gate_callee (f := 69) rfl ?_); refine goesL_ (some 43) rfl rfl Try.func69 (by kernel_rfl) rfl #[.int .i64 (wrap64 ((wrap64 (t135 * (wrap64 (a2)))) + (wrap64 (t136 * (wrap64 (a3))))))] rfl (by (try simp only [List.map_toArray, List.map_cons, List.map_nil]); first | done | rfl | (simp only [List.length_drop, List.length_take]; rfl)) ?_; (with_reducible refine (mixer_share.calls (wrap64 ((wrap64 (t135 * (wrap64 (a2)))) + (wrap64 (t136 * (wrap64 (a3)))))) t137 _ A14.out).mono ?_); rintro e w' ⟨rfl, ⟨nd, rfl⟩⟩; refine ⟨_, rfl, ?_⟩; (try (rw [drewN_self wr]; generalize hq_ : World.drewN wr _ = wr; have n0_ : Aside0 (Kd.R (Kd.int .i16) 36 wr w.heap.size (fun _ => True) (.slice Ao10 x9_1.length co10) x9_1) := ⟨by rw [← hq_]; exact (by (with_reducible repeat (first | apply Kd.R_alloc | apply Kd.R_drewN | apply Kd.R_drew)); exact HO_9.out)⟩; have n1_ : Aside0 (Below w.heap.size w wr) := ⟨by rw [← hq_]; exact (by repeat (first | (with_reducible first | exact HB.out | apply below_alloc | apply pw_below_drewN | apply below_drew1) | exact HB.out))⟩; have HX1_ : Aside0 (wr.heap[b1]? = some (.cells #[.slice A0 l0.length c0] 22 (0, 0))) := ⟨by rw [← hq_]; exact HX1.out⟩; have HX2_ : Aside0 (wr.heap[b2]? = some (.cells #[.slice A1 l1.length c1] 22 (0, 0))) := ⟨by rw [← hq_]; exact HX2.out⟩; clear HX1; have HX1 := HX1_; clear HX1_; clear HX2; have HX2 := HX2_; clear HX2_; clear HO_9 HB hq_; have HO_9 := n0_; have HB := n1_; clear n0_ n1_)); have p17 : 0 ≤ (x25_1 : Int) := of_decide_eq_true (by first | (with_reducible assumption) | assumption); have q17 : (x25_1 : Int) < ((x9_1.length : Int) : Int) := of_decide_eq_true (by first | (with_reducible assumption) | assumption); obtain ⟨go17, co17, eo17, gb17, gl17, cl17, HG17⟩ := Kd.R_form HO_9.out (by omega); (first | cases eo17 | (injection eo17 with ea_ en_ ec_; (first | subst ea_ | (injection ea_ with ea_; subst ea_)); subst ec_; clear en_)); have GB17 := Aside0.mk gb17; have GG17 := Aside0.mk HG17; clear gb17 gl17 HG17; obtain ⟨hx17_0, hf17_0⟩ := Kd.R_celln 0 HO_9.out (x25_1 : Int) p17 q17; replace p17 := eq_true p17; replace q17 := eq_true q17; obtain ⟨hy18_, hz18_⟩ := Kd.R_celln 0 HO_9.out (x25_1 : Int) (of_decide_eq_true (by first | (with_reducible assumption) | assumption)) (of_decide_eq_true (by first | (with_reducible assumption) | assumption)); have HP18 := Kd.R_putg HO_9.out (x25_1 : Int) t137) | ((with_reducible refine gate_store (t := 36) (p := 44) rfl ?_); refine store_event (t := 36) (p := 44) (v := ?vo_w19) (w1 := (wr.setCell ⟨go17, (x25_1 : Int).toNat, none⟩ (.int .i16 t137))) ?hg ?ho ?hn ?hr ?_; (case ho => rfl); (case hg => rfl); (case hn => rfl); (case hr => first | (go_simp; done) | (go_simp; rfl)); intro w19 hw; have hg : wr.grownBy w19 (some go17) := (by rw [hw]; exact HP18.2); have hp_ : Kd.R (Kd.int .i16) 36 w19 w.heap.size (fun _ => True) (.slice (some ⟨go17, 0, none⟩) x9_1.length co10) y138 := (by rw [hw, Ny138.out]; exact HP18.1); have HX1_ : Aside0 (w19.heap[b1]? = some (.cells #[.slice A0 l0.length c0] 22 (0, 0))) := ⟨blk_grown HX1.out hg (Kd.R_ne HO_9.out HX1.out (by decide))⟩; have HX2_ : Aside0 (w19.heap[b2]? = some (.cells #[.slice A1 l1.length c1] 22 (0, 0))) := ⟨blk_grown HX2.out hg (Kd.R_ne HO_9.out HX2.out (by decide))⟩; clear HX1; have HX1 := HX1_; clear HX1_; clear HX2; have HX2 := HX2_; clear HX2_; clear HP18; have n0_ := Aside0.mk (hp_); have n1_ := Aside0.mk ((by rw [hw]; exact below_set (HB.out) GB17.out : Below w.heap.size w w19)); clear HO_9; clear HB; have HO_9 := n0_; have HB := n1_; clear n0_ n1_; clear hg hw hp_))
                (try simp only [← hl9_1])
                go_roundg k1
                case measure => have := HK1.out; omega
                case rel => exact ⟨(y138), (wrap64 (x25_1 + 1)), (by first | rfl | (simp; done) | (simp [*]; done)), H', ⟨by have := HK1.out; omega⟩, ⟨by (try simp only [hl9_1]); (with_reducible repeat (first | apply Kd.R_alloc | apply Kd.R_drewN | apply Kd.R_drew)); exact HO_9.out⟩, ⟨by repeat (first | (with_reducible first | exact HB.out | apply below_alloc | apply pw_below_drewN | apply below_drew1) | exact HB.out)⟩, ⟨by exact HX1.out⟩, ⟨by exact HX2.out⟩⟩
              · rw [if_neg c16] at H
                exact absurd H (by simp)
            · rw [if_neg c15] at H
              exact absurd H (by simp)
          · rw [if_neg c11] at H
            have c11b0 : decide (x25_1 < (y132.length : Int)) = false := decide_eq_false c11
            (try (have c11b0x := c11b0; rw [(‹y132.length = _› : y132.length = _)] at c11b0x))
            clear c11
            obtain rfl := Option.some.inj H
            go_wp2
            go_ret
            exact ⟨_, by first | rfl | (simp [errW_none, errW_some] <;> rfl) | (simp only [← hji5]; first | rfl | (simp [errW_none, errW_some] <;> rfl)) | (simp [*, errW_none, errW_some] <;> rfl), by (with_reducible repeat (first | apply Kd.R_alloc | apply Kd.R_drewN | apply Kd.R_drew)); exact HO_9.out, by repeat (first | (with_reducible first | exact HB.out | apply below_alloc | apply pw_below_drewN | apply below_drew1) | exact HB.out)⟩
    · rw [if_neg c7] at H
      exact absurd H (by simp)
  · rw [if_neg c6] at H
    exact absurd H (by simp)

/-! ### pcm_Weave: function 74 -/
mutual
def pcm_Weave.j0 : Nat → List (List Int) → Bool → Option (List Int × Int)
  | 0, _, _ => none
  | k + 1, x0, x29 => if x29 = true then (some (([] : List Int), 1)) else (if 0 < (x0.length : Int) then (pcm_Weave.l0 k x0 ([] : List Int) ((rd_L1 x0 0).length : Int) 0) else (none))
def pcm_Weave.l0 : Nat → List (List Int) → List Int → Int → Int → Option (List Int × Int)
  | 0, _, _, _, _ => none
  | k + 1, x0, x4, x33, x34 => if x34 < x33 then (pcm_Weave.l1 k x0 x4 x34 x33 x34 x0 (x0.length : Int) 0) else (some (x4, 0))
def pcm_Weave.l1 : Nat → List (List Int) → List Int → Int → Int → Int → List (List Int) → Int → Int → Option (List Int × Int)
  | 0, _, _, _, _, _, _, _, _ => none
  | k + 1, x0, x4, x5, x33, x34, x37, x38, x39 => if x39 < x38 then (if 0 ≤ x39 then (if x39 < (x37.length : Int) then (if 0 ≤ x5 then (if x5 < ((rd_L1 x37 x39).length : Int) then (if x4.length < 70368744177664 then (pcm_Weave.l1 k x0 (x4 ++ [rd (rd_L1 x37 x39) x5]) x5 x33 x34 x37 x38 (wrap64 (x39 + 1))) else (none)) else (none)) else (none)) else (none)) else (none)) else (pcm_Weave.l0 k x0 x4 x33 (wrap64 (x34 + 1)))
end
def pcm_Weave.f (k : Nat) (l0 : List (List Int)) : Option (List Int × Int) := if (l0.length : Int) < 1 then (pcm_Weave.j0 k l0 true) else (if (l0.length : Int) > 2 then (pcm_Weave.j0 k l0 true) else (if 0 < (l0.length : Int) then (if 0 ≤ (wrap64 ((l0.length : Int) - 1)) then (if (wrap64 ((l0.length : Int) - 1)) < (l0.length : Int) then (pcm_Weave.j0 k l0 (((rd_L1 l0 0).length : Int) != ((rd_L1 l0 (wrap64 ((l0.length : Int) - 1))).length : Int))) else (none)) else (none)) else (none)))
theorem pcm_Weave.mono_l : ∀ k, (∀ y0 y1, LeO (pcm_Weave.j0 k y0 y1) (pcm_Weave.j0 (k + 1) y0 y1)) ∧ (∀ y0 y1 y2 y3, LeO (pcm_Weave.l0 k y0 y1 y2 y3) (pcm_Weave.l0 (k + 1) y0 y1 y2 y3)) ∧ (∀ y0 y1 y2 y3 y4 y5 y6 y7, LeO (pcm_Weave.l1 k y0 y1 y2 y3 y4 y5 y6 y7) (pcm_Weave.l1 (k + 1) y0 y1 y2 y3 y4 y5 y6 y7))
  | 0 => ⟨fun _ _ r h => by simp [pcm_Weave.j0] at h, fun _ _ _ _ r h => by simp [pcm_Weave.l0] at h, fun _ _ _ _ _ _ _ _ r h => by simp [pcm_Weave.l1] at h⟩
  | k + 1 => by
    obtain ⟨ih0, ih1, ih2⟩ := pcm_Weave.mono_l k
    refine ⟨?_, ?_, ?_⟩
    · intro y0 y1
      unfold pcm_Weave.j0
      repeat' first
      | (with_reducible exact ih0 _ _)
      | (with_reducible exact ih1 _ _ _ _)
      | (with_reducible exact ih2 _ _ _ _ _ _ _ _)
      | (with_reducible exact LeO.refl _)
      | (with_reducible exact LeO.none _)
      | (with_reducible refine LeO.ite ?_ ?_)
      | (with_reducible refine LeO.bind ?_ (fun _ => ?_))
      | exact ih0 _ _
      | exact ih1 _ _ _ _
      | exact ih2 _ _ _ _ _ _ _ _
      | exact LeO.none _
      | refine LeO.ite ?_ ?_
      | refine LeO.bind ?_ (fun _ => ?_)
    · intro y0 y1 y2 y3
      unfold pcm_Weave.l0
      repeat' first
      | (with_reducible exact ih0 _ _)
      | (with_reducible exact ih1 _ _ _ _)
      | (with_reducible exact ih2 _ _ _ _ _ _ _ _)
      | (with_reducible exact LeO.refl _)
      | (with_reducible exact LeO.none _)
      | (with_reducible refine LeO.ite ?_ ?_)
      | (with_reducible refine LeO.bind ?_ (fun _ => ?_))
      | exact ih0 _ _
      | exact ih1 _ _ _ _
      | exact ih2 _ _ _ _ _ _ _ _
      | exact LeO.none _
      | refine LeO.ite ?_ ?_
      | refine LeO.bind ?_ (fun _ => ?_)
    · intro y0 y1 y2 y3 y4 y5 y6 y7
      unfold pcm_Weave.l1
      repeat' first
      | (with_reducible exact ih0 _ _)
      | (with_reducible exact ih1 _ _ _ _)
      | (with_reducible exact ih2 _ _ _ _ _ _ _ _)
      | (with_reducible exact LeO.refl _)
      | (with_reducible exact LeO.none _)
      | (with_reducible refine LeO.ite ?_ ?_)
      | (with_reducible refine LeO.bind ?_ (fun _ => ?_))
      | exact ih0 _ _
      | exact ih1 _ _ _ _
      | exact ih2 _ _ _ _ _ _ _ _
      | exact LeO.none _
      | refine LeO.ite ?_ ?_
      | refine LeO.bind ?_ (fun _ => ?_)
theorem pcm_Weave.mono : ∀ a0 k, LeO (pcm_Weave.f k a0) (pcm_Weave.f (k + 1) a0) := by
  intro a0 k
  obtain ⟨ih0, ih1, ih2⟩ := pcm_Weave.mono_l k
  unfold pcm_Weave.f
  repeat' first
      | (with_reducible exact ih0 _ _)
      | (with_reducible exact ih1 _ _ _ _)
      | (with_reducible exact ih2 _ _ _ _ _ _ _ _)
      | (with_reducible exact LeO.refl _)
      | (with_reducible exact LeO.none _)
      | (with_reducible refine LeO.ite ?_ ?_)
      | (with_reducible refine LeO.bind ?_ (fun _ => ?_))
      | exact ih0 _ _
      | exact ih1 _ _ _ _
      | exact ih2 _ _ _ _ _ _ _ _
      | exact LeO.none _
      | refine LeO.ite ?_ ?_
      | refine LeO.bind ?_ (fun _ => ?_)
set_option maxHeartbeats 8000000 in
set_option maxRecDepth 100000 in
theorem pcm_Weave.calls (k : Nat) (A0 : Option Addr) (c0 : Nat) (l0 : List (List Int)) (r1 : List Int) (r2 : Int) (w : World) (hr0 : Kd.C (Kd.slice 36 (Kd.int .i16)) w A0 l0.length l0) (hc0 : l0.length ≤ c0) (h : pcm_Weave.f k l0 = some (r1, r2)) :
    Calls Try.prog 74 #[.slice A0 l0.length c0] w fun e w' => ∃ v0_ : Value, e = .returned (.tuple #[v0_, .int .i64 r2]) ∧ Kd.R (Kd.int .i16) 36 w' w.heap.size (fun _ => True) v0_ r1 ∧ Below w.heap.size w w' := by
  have HR0 := Aside0.mk hr0
  have HC0 := Aside0.mk hc0
  clear hr0 hc0
  have HB := Aside0.mk (Below.refl w.heap.size w)
  have H : (if (l0.length : Int) < 1 then (pcm_Weave.j0 k l0 true) else (if (l0.length : Int) > 2 then (pcm_Weave.j0 k l0 true) else (if 0 < (l0.length : Int) then (if 0 ≤ (wrap64 ((l0.length : Int) - 1)) then (if (wrap64 ((l0.length : Int) - 1)) < (l0.length : Int) then (pcm_Weave.j0 k l0 (((rd_L1 l0 0).length : Int) != ((rd_L1 l0 (wrap64 ((l0.length : Int) - 1))).length : Int))) else (none)) else (none)) else (none)))) = some (r1, r2) := h
  clear h
  have HC2 := Aside0.mk H
  clear H
  go_enter Try.func74, Try.ntmps74
  go_upto_region 1 with (fail)
  repeat (go_quiet (fail); go_upto_region 1 with (fail))
  go_cut [29] (fun v29 wc => ∃ (kq : Nat) (x29_1 : Bool), v29 = .bool x29_1 ∧ Aside0 (pcm_Weave.j0 kq l0 x29_1 = some (r1, r2)) ∧ Aside0 (kq ≤ k) ∧ Aside0 (Below w.heap.size w wc))
  case first =>
    have H := HC2.out
    clear HC2
    by_cases c3 : (l0.length : Int) < 1
    · rw [if_pos c3] at H
      have c3b0 : decide ((l0.length : Int) < 1) = true := decide_eq_true c3
      have c3b1 : decide (l0.length < 1) = true := decide_eq_true (by omega)
      clear c3
      (first | rw [c3b0] | (simp only [i64_w, i32_w]; rw [c3b0]) | skip)
      have H' := Aside0.mk H
      clear H
      go_wp2
      repeat (go_quiet (fail); try go_wp2)
      go_meet
      case rel => exact ⟨_, (true), (by first | rfl | (simp; done) | (simp [*]; done)), H', ⟨by first | omega | exact Nat.le_refl _⟩, ⟨by repeat (first | (with_reducible first | exact HB.out | apply below_alloc | apply pw_below_drewN | apply below_drew1) | exact HB.out)⟩⟩
    · rw [if_neg c3] at H
      have c3b0 : decide ((l0.length : Int) < 1) = false := decide_eq_false c3
      have c3b1 : decide (l0.length < 1) = false := decide_eq_false (by omega)
      clear c3
      (first | rw [c3b0] | (simp only [i64_w, i32_w]; rw [c3b0]) | skip)
      by_cases c4 : (l0.length : Int) > 2
      · rw [if_pos c4] at H
        have c4b0 : decide (2 < (l0.length : Int)) = true := decide_eq_true c4
        have c4b1 : decide (2 < l0.length) = true := decide_eq_true (by omega)
        clear c4
        have H' := Aside0.mk H
        clear H
        go_wp2
        repeat (go_quiet (fail); try go_wp2)
        go_meet
        case rel => exact ⟨_, (true), (by first | rfl | (simp; done) | (simp [*]; done)), H', ⟨by first | omega | exact Nat.le_refl _⟩, ⟨by repeat (first | (with_reducible first | exact HB.out | apply below_alloc | apply pw_below_drewN | apply below_drew1) | exact HB.out)⟩⟩
      · rw [if_neg c4] at H
        have c4b0 : decide (2 < (l0.length : Int)) = false := decide_eq_false c4
        have c4b1 : decide (2 < l0.length) = false := decide_eq_false (by omega)
        clear c4
        by_cases c5 : 0 < (l0.length : Int)
        · rw [if_pos c5] at H
          have c5b0 : decide (0 < (l0.length : Int)) = true := decide_eq_true c5
          have c5b1 : decide (0 < l0.length) = true := decide_eq_true (by omega)
          clear c5
          obtain ⟨ji6, hji6⟩ : ∃ j_ : Int, (wrap64 ((l0.length : Int) - 1)) = j_ := ⟨_, rfl⟩
          replace H : (if 0 ≤ (ji6) then (if (ji6) < (l0.length : Int) then (pcm_Weave.j0 k l0 (((rd_L1 l0 0).length : Int) != ((rd_L1 l0 (ji6)).length : Int))) else (none)) else (none)) = some (r1, r2) := by first | (rw [hji6] at H; exact H) | (simp only [hji6] at H ⊢; exact H)
          have hji6w : (IntKind.i64.wrap ((l0.length : Int) - 1)) = ji6 := (i64_w _).trans hji6
          by_cases c7 : 0 ≤ (ji6)
          · rw [if_pos c7] at H
            have c7b0 : decide (0 ≤ (ji6)) = true := decide_eq_true c7
            clear c7
            by_cases c8 : (ji6) < (l0.length : Int)
            · rw [if_pos c8] at H
              have c8b0 : decide ((ji6) < (l0.length : Int)) = true := decide_eq_true c8
              clear c8
              have H' := Aside0.mk H
              clear H
              have p139 : 0 ≤ (0 : Int) := (by omega)
              have q139 : 0 < (l0.length : Int) := of_decide_eq_true (by first | (with_reducible assumption) | assumption)
              obtain ⟨ad139, A139_0, c139_0, e139, hx139_0, hl139_0, hi139_0⟩ := at_L1 HR0.out 0 p139 q139
              cases e139
              have qi139 : (0 < l0.length) = True := eq_true (by omega)
              (try rw [show ((0 : Int)).toNat = 0 from rfl] at hx139_0)
              (try rw [Addr.add_zero'] at hx139_0)
              replace hx139_0 := (HB.out.cell (World.block_lt_of_cell? w _ hx139_0)).trans hx139_0
              have HR139_0 := Aside0.mk hi139_0
              have HC139_0 := Aside0.mk hl139_0
              clear hi139_0 hl139_0
              replace p139 := eq_true p139
              replace q139 := eq_true q139
              have p140 : 0 ≤ ((ji6) : Int) := of_decide_eq_true (by first | (with_reducible assumption) | assumption)
              have q140 : (ji6) < (l0.length : Int) := of_decide_eq_true (by first | (with_reducible assumption) | assumption)
              obtain ⟨ad140, A140_0, c140_0, e140, hx140_0, hl140_0, hi140_0⟩ := at_L1 HR0.out (ji6) p140 q140
              obtain rfl : ad139 = ad140 := (by injection e140)
              replace hx140_0 := (HB.out.cell (World.block_lt_of_cell? w _ hx140_0)).trans hx140_0
              have HR140_0 := Aside0.mk hi140_0
              have HC140_0 := Aside0.mk hl140_0
              clear hi140_0 hl140_0
              replace p140 := eq_true p140
              replace q140 := eq_true q140
              go_wp2
              repeat (go_quiet (fail); try go_wp2)
              go_meet
              case rel => exact ⟨_, ((((rd_L1 l0 0).length : Int) != ((rd_L1 l0 (ji6)).length : Int))), (by first | rfl | (simp; done) | (simp only [← hji6] <;> (first | rfl | (simp; done))) | (simp [*]; done)), H', ⟨by first | omega | exact Nat.le_refl _⟩, ⟨by repeat (first | (with_reducible first | exact HB.out | apply below_alloc | apply pw_below_drewN | apply below_drew1) | exact HB.out)⟩⟩
            · rw [if_neg c8] at H
              exact absurd H (by simp)
          · rw [if_neg c7] at H
            exact absurd H (by simp)
        · rw [if_neg c5] at H
          exact absurd H (by simp)
  case rest =>
    clear HC2
    try clear c1
    try clear p1
    try clear q1
    try clear hx1
    try clear qi1
    try clear p2
    try clear c3
    try clear c3b0
    try clear c3b1
    try clear c4
    try clear c4b0
    try clear c4b1
    try clear c5
    try clear c5b0
    try clear c5b1
    try clear p6
    try clear c7
    try clear c7b0
    try clear c8
    try clear c8b0
    try clear hx139_0
    try clear hx140_0
    try clear p139
    try clear p140
    try clear q139
    try clear q140
    obtain ⟨kq, x29_1, rfl, HA, HJ1, HB⟩ := hcut
    cases kq with
    | zero => exact absurd HA.out (by simp [pcm_Weave.j0])
    | succ kj1 =>
      have H := HA.out
      clear HA
      simp only [pcm_Weave.j0] at H
      by_cases c9 : x29_1 = true
      · subst c9
        have H1 : (some (([] : List Int), 1)) = some (r1, r2) := by rw [if_pos rfl] at H; exact H
        clear H
        have H := H1
        clear H1
        simp only [Option.some.injEq, Prod.mk.injEq] at H
        obtain ⟨rfl, rfl⟩ := H
        go_wp2
        repeat (go_quiet (fail); try go_wp2)
        go_ret2
        exact ⟨_, by first | rfl | (simp [errW_none, errW_some] <;> rfl) | (simp [*, errW_none, errW_some] <;> rfl), by first | exact Kd.R_nil _ _ _ _ _ | exact Kd.N_nil _ _ _ _ _ | exact Kd.V_nil _ _ _ _ _ | exact Kd.Q_nil _ _ _ _ _ | exact Kd.S_nil _ _ _ _ _, by repeat (first | (with_reducible first | exact HB.out | apply below_alloc | apply pw_below_drewN | apply below_drew1) | exact HB.out)⟩
      · replace c9 := Bool.eq_false_iff.mpr c9
        subst c9
        have H1 : (if 0 < (l0.length : Int) then (pcm_Weave.l0 kj1 l0 ([] : List Int) ((rd_L1 l0 0).length : Int) 0) else (none)) = some (r1, r2) := by rw [if_neg (show ¬ (false = true) by decide)] at H; exact H
        clear H
        have H := H1
        clear H1
        by_cases c10 : 0 < (l0.length : Int)
        · rw [if_pos c10] at H
          have c10b0 : decide (0 < (l0.length : Int)) = true := decide_eq_true c10
          have c10b1 : decide (0 < l0.length) = true := decide_eq_true (by omega)
          clear c10
          have H' := Aside0.mk H
          clear H
          have p141 : 0 ≤ (0 : Int) := (by omega)
          have q141 : 0 < (l0.length : Int) := of_decide_eq_true (by first | (with_reducible assumption) | assumption)
          obtain ⟨ad141, A141_0, c141_0, e141, hx141_0, hl141_0, hi141_0⟩ := at_L1 HR0.out 0 p141 q141
          cases e141
          have qi141 : (0 < l0.length) = True := eq_true (by omega)
          (try rw [show ((0 : Int)).toNat = 0 from rfl] at hx141_0)
          (try rw [Addr.add_zero'] at hx141_0)
          replace hx141_0 := (HB.out.cell (World.block_lt_of_cell? w _ hx141_0)).trans hx141_0
          have HR141_0 := Aside0.mk hi141_0
          have HC141_0 := Aside0.mk hl141_0
          clear hi141_0 hl141_0
          replace p141 := eq_true p141
          replace q141 := eq_true q141
          go_wp2
          repeat (go_quiet (fail); try go_wp2)
          go_loopg [4, 34] kj1 (fun kq v4 v34 w' => ∃ (x4_2 : List Int) (x34_2 : Int), v34 = .int .i64 x34_2 ∧ Aside0 (pcm_Weave.l0 kq l0 x4_2 ((rd_L1 l0 0).length : Int) x34_2 = some (r1, r2)) ∧ Aside0 (kq ≤ kj1) ∧ Aside0 (Kd.R (Kd.int .i16) 36 w' w.heap.size (fun _ => True) v4 x4_2) ∧ Aside0 (Below w.heap.size w w'))
          case atStart => exact ⟨(([] : List Int)), (0), (by first | rfl | (simp; done) | (simp [*]; done)), H', ⟨Nat.le_refl _⟩, ⟨by first | exact Kd.R_nil _ _ _ _ _ | exact Kd.N_nil _ _ _ _ _ | exact Kd.V_nil _ _ _ _ _ | exact Kd.Q_nil _ _ _ _ _ | exact Kd.S_nil _ _ _ _ _⟩, ⟨by repeat (first | (with_reducible first | exact HB.out | apply below_alloc | apply pw_below_drewN | apply below_drew1) | exact HB.out)⟩⟩
          case round =>
            clear H'
            try clear c1
            try clear p1
            try clear q1
            try clear hx1
            try clear qi1
            try clear p2
            try clear c3
            try clear c3b0
            try clear c3b1
            try clear c4
            try clear c4b0
            try clear c4b1
            try clear c5
            try clear c5b0
            try clear c5b1
            try clear p6
            try clear c7
            try clear c7b0
            try clear c8
            try clear c8b0
            try clear c9
            try clear c10
            try clear c10b0
            try clear c10b1
            try clear hx139_0
            try clear hx140_0
            try clear hx141_0
            try clear p1
            try clear p139
            try clear p140
            try clear p141
            try clear p2
            try clear p6
            try clear q1
            try clear q139
            try clear q140
            try clear q141
            obtain ⟨x4_2, x34_2, rfl, HA, HK2, HO_4, HB⟩ := hrel
            cases gk with
            | zero => exact absurd HA.out (by simp [pcm_Weave.l0])
            | succ k2 =>
              have H := HA.out
              clear HA
              simp only [pcm_Weave.l0] at H
              by_cases c11 : x34_2 < ((rd_L1 l0 0).length : Int)
              · rw [if_pos c11] at H
                have c11b0 : decide (x34_2 < ((rd_L1 l0 0).length : Int)) = true := decide_eq_true c11
                clear c11
                have H' := Aside0.mk H
                clear H
                go_wp2
                repeat (go_quiet (fail); try go_wp2)
                go_loopg [4, 39] k2 (fun kq v4 v39 w' => ∃ (x4_3 : List Int) (x39_3 : Int), v39 = .int .i64 x39_3 ∧ Aside0 (pcm_Weave.l1 kq l0 x4_3 x34_2 ((rd_L1 l0 0).length : Int) x34_2 l0 (l0.length : Int) x39_3 = some (r1, r2)) ∧ Aside0 (kq ≤ k2) ∧ Aside0 (Kd.R (Kd.int .i16) 36 w' w.heap.size (fun _ => True) v4 x4_3) ∧ Aside0 (Below w.heap.size w w'))
                case atStart => exact ⟨(x4_2), (0), (by first | rfl | (simp; done) | (simp [*]; done)), H', ⟨Nat.le_refl _⟩, ⟨by (with_reducible repeat (first | apply Kd.R_alloc | apply Kd.R_drewN | apply Kd.R_drew)); exact HO_4.out⟩, ⟨by repeat (first | (with_reducible first | exact HB.out | apply below_alloc | apply pw_below_drewN | apply below_drew1) | exact HB.out)⟩⟩
                case round =>
                  clear H'
                  try clear c1
                  try clear p1
                  try clear q1
                  try clear hx1
                  try clear qi1
                  try clear p2
                  try clear c3
                  try clear c3b0
                  try clear c3b1
                  try clear c4
                  try clear c4b0
                  try clear c4b1
                  try clear c5
                  try clear c5b0
                  try clear c5b1
                  try clear p6
                  try clear c7
                  try clear c7b0
                  try clear c8
                  try clear c8b0
                  try clear c9
                  try clear c10
                  try clear c10b0
                  try clear c10b1
                  try clear c11
                  try clear c11b0
                  try clear hx139_0
                  try clear hx140_0
                  try clear hx141_0
                  try clear p1
                  try clear p139
                  try clear p140
                  try clear p141
                  try clear p2
                  try clear p6
                  try clear q1
                  try clear q139
                  try clear q140
                  try clear q141
                  obtain ⟨x4_3, x39_3, rfl, HA, HK3, HO_4, HB⟩ := hrel
                  cases gk with
                  | zero => exact absurd HA.out (by simp [pcm_Weave.l1])
                  | succ k3 =>
                    have H := HA.out
                    clear HA
                    simp only [pcm_Weave.l1] at H
                    by_cases c12 : x39_3 < (l0.length : Int)
                    · rw [if_pos c12] at H
                      have c12b0 : decide (x39_3 < (l0.length : Int)) = true := decide_eq_true c12
                      clear c12
                      by_cases c13 : 0 ≤ x39_3
                      · rw [if_pos c13] at H
                        have c13b0 : decide (0 ≤ x39_3) = true := decide_eq_true c13
                        clear c13
                        by_cases c14 : x39_3 < (l0.length : Int)
                        · rw [if_pos c14] at H
                          have c14b0 : decide (x39_3 < (l0.length : Int)) = true := decide_eq_true c14
                          clear c14
                          by_cases c15 : 0 ≤ x34_2
                          · rw [if_pos c15] at H
                            have c15b0 : decide (0 ≤ x34_2) = true := decide_eq_true c15
                            clear c15
                            by_cases c16 : x34_2 < ((rd_L1 l0 x39_3).length : Int)
                            · rw [if_pos c16] at H
                              have c16b0 : decide (x34_2 < ((rd_L1 l0 x39_3).length : Int)) = true := decide_eq_true c16
                              clear c16
                              by_cases c17 : x4_3.length < 70368744177664
                              · rw [if_pos c17] at H
                                have LMc17 := Aside0.mk c17
                                clear c17
                                obtain ⟨y144, hy144⟩ : ∃ y_ : List Int, y_ = (x4_3 ++ [rd (rd_L1 l0 x39_3) x34_2]) := ⟨_, rfl⟩
                                replace H : (pcm_Weave.l1 k3 l0 y144 x34_2 ((rd_L1 l0 0).length : Int) x34_2 l0 (l0.length : Int) (wrap64 (x39_3 + 1))) = some (r1, r2) := by first | (rw [hy144]; with_reducible exact H) | (have H2_ := (Option.bind_some _ _).symm.trans H; rw [hy144]; with_reducible exact H2_) | (have H2_ := (Option.bind_some _ _).symm.trans H; with_reducible exact H2_) | with_reducible exact H | (rw [hy144]; exact H) | exact H
                                have Ny144 := Aside0.mk hy144
                                clear hy144
                                have H' := Aside0.mk H
                                clear H
                                have p142 : 0 ≤ (x39_3 : Int) := of_decide_eq_true (by first | (with_reducible assumption) | assumption)
                                have q142 : x39_3 < (l0.length : Int) := of_decide_eq_true (by first | (with_reducible assumption) | assumption)
                                obtain ⟨ad142, A142_0, c142_0, e142, hx142_0, hl142_0, hi142_0⟩ := at_L1 HR0.out x39_3 p142 q142
                                obtain rfl : ad141 = ad142 := (by injection e142)
                                replace hx142_0 := (HB.out.cell (World.block_lt_of_cell? w _ hx142_0)).trans hx142_0
                                have HR142_0 := Aside0.mk hi142_0
                                have HC142_0 := Aside0.mk hl142_0
                                clear hi142_0 hl142_0
                                replace p142 := eq_true p142
                                replace q142 := eq_true q142
                                have p143 : 0 ≤ (x34_2 : Int) := of_decide_eq_true (by first | (with_reducible assumption) | assumption)
                                have q143 : x34_2 < ((rd_L1 l0 x39_3).length : Int) := of_decide_eq_true (by first | (with_reducible assumption) | assumption)
                                obtain ⟨ad143, e143, hx143_0⟩ := Kd.at_int HR142_0.out x34_2 p143 q143
                                cases e143
                                replace hx143_0 := (HB.out.cell (World.block_lt_of_cell? w _ hx143_0)).trans hx143_0
                                replace p143 := eq_true p143
                                replace q143 := eq_true q143
                                go_wp2_with (first | ((with_reducible refine gate_builtin (b := .append) (xs := #[.tmp 43, .tmp 48]) rfl ?_); (try (refine gate_guard (by rfl) ?_; dsimp only)); at_builtin; refine Kd.R_append (Kd.int .i16) (w0 := w) w.heap.size rfl (.tmp 43) (.tmp 48) 22 36 (.int .i16 0) 2 rfl Try.underlying22 info36 rfl (by decide) (by omega) u4 x4_3 (rd (rd_L1 l0 x39_3) x34_2) [.int .i16 (rd (rd_L1 l0 x39_3) x34_2)] (fun _ => True) (fun _ => False) rfl rfl ?aP (fun _ hk => hk.elim) ?aF ?aO ?aB ?aS ?aL ?_; (case aP => exact rfl); (case aB => exact (by repeat (first | (with_reducible first | exact HB.out | apply below_alloc | apply pw_below_drewN | apply below_drew1) | exact HB.out))); (case aF => exact (fun _ _ => trivial)); (case aO => exact (by (with_reducible repeat (first | apply Kd.R_alloc | apply Kd.R_drewN | apply Kd.R_drew)); exact HO_4.out)); (case aS => exact (below_size (by repeat (first | (with_reducible first | exact HB.out | apply below_alloc | apply pw_below_drewN | apply below_drew1) | exact HB.out)))); (case aL => have := LMc17.out; omega); intro v145 w18 ho hb hg hat; rw [← Ny144.out] at ho; have n0_ := Aside0.mk (hb); have n1_ := Aside0.mk (ho); clear HB; clear HO_4; have HB := n0_; have HO146 := n1_; clear n0_ n1_; clear ho hb hg hat))
                                repeat (go_quiet (first | ((with_reducible refine gate_builtin (b := .append) (xs := #[.tmp 43, .tmp 48]) rfl ?_); (try (refine gate_guard (by rfl) ?_; dsimp only)); at_builtin; refine Kd.R_append (Kd.int .i16) (w0 := w) w.heap.size rfl (.tmp 43) (.tmp 48) 22 36 (.int .i16 0) 2 rfl Try.underlying22 info36 rfl (by decide) (by omega) u4 x4_3 (rd (rd_L1 l0 x39_3) x34_2) [.int .i16 (rd (rd_L1 l0 x39_3) x34_2)] (fun _ => True) (fun _ => False) rfl rfl ?aP (fun _ hk => hk.elim) ?aF ?aO ?aB ?aS ?aL ?_; (case aP => exact rfl); (case aB => exact (by repeat (first | (with_reducible first | exact HB.out | apply below_alloc | apply pw_below_drewN | apply below_drew1) | exact HB.out))); (case aF => exact (fun _ _ => trivial)); (case aO => exact (by (with_reducible repeat (first | apply Kd.R_alloc | apply Kd.R_drewN | apply Kd.R_drew)); exact HO_4.out)); (case aS => exact (below_size (by repeat (first | (with_reducible first | exact HB.out | apply below_alloc | apply pw_below_drewN | apply below_drew1) | exact HB.out)))); (case aL => have := LMc17.out; omega); intro v145 w18 ho hb hg hat; rw [← Ny144.out] at ho; have n0_ := Aside0.mk (hb); have n1_ := Aside0.mk (ho); clear HB; clear HO_4; have HB := n0_; have HO146 := n1_; clear n0_ n1_; clear ho hb hg hat)); try go_wp2_with (first | ((with_reducible refine gate_builtin (b := .append) (xs := #[.tmp 43, .tmp 48]) rfl ?_); (try (refine gate_guard (by rfl) ?_; dsimp only)); at_builtin; refine Kd.R_append (Kd.int .i16) (w0 := w) w.heap.size rfl (.tmp 43) (.tmp 48) 22 36 (.int .i16 0) 2 rfl Try.underlying22 info36 rfl (by decide) (by omega) u4 x4_3 (rd (rd_L1 l0 x39_3) x34_2) [.int .i16 (rd (rd_L1 l0 x39_3) x34_2)] (fun _ => True) (fun _ => False) rfl rfl ?aP (fun _ hk => hk.elim) ?aF ?aO ?aB ?aS ?aL ?_; (case aP => exact rfl); (case aB => exact (by repeat (first | (with_reducible first | exact HB.out | apply below_alloc | apply pw_below_drewN | apply below_drew1) | exact HB.out))); (case aF => exact (fun _ _ => trivial)); (case aO => exact (by (with_reducible repeat (first | apply Kd.R_alloc | apply Kd.R_drewN | apply Kd.R_drew)); exact HO_4.out)); (case aS => exact (below_size (by repeat (first | (with_reducible first | exact HB.out | apply below_alloc | apply pw_below_drewN | apply below_drew1) | exact HB.out)))); (case aL => have := LMc17.out; omega); intro v145 w18 ho hb hg hat; rw [← Ny144.out] at ho; have n0_ := Aside0.mk (hb); have n1_ := Aside0.mk (ho); clear HB; clear HO_4; have HB := n0_; have HO146 := n1_; clear n0_ n1_; clear ho hb hg hat)))
                                go_roundg k3
                                case measure => have := HJ1.out; have := HK2.out; have := HK3.out; omega
                                case rel => exact ⟨(y144), (wrap64 (x39_3 + 1)), (by first | rfl | (simp; done) | (simp [*]; done)), H', ⟨by have := HJ1.out; have := HK2.out; have := HK3.out; omega⟩, ⟨by (with_reducible repeat (first | apply Kd.R_alloc | apply Kd.R_drewN | apply Kd.R_drew)); exact HO146.out⟩, ⟨by repeat (first | (with_reducible first | exact HB.out | apply below_alloc | apply pw_below_drewN | apply below_drew1) | exact HB.out)⟩⟩
                              · rw [if_neg c17] at H
                                exact absurd H (by simp)
                            · rw [if_neg c16] at H
                              exact absurd H (by simp)
                          · rw [if_neg c15] at H
                            exact absurd H (by simp)
                        · rw [if_neg c14] at H
                          exact absurd H (by simp)
                      · rw [if_neg c13] at H
                        exact absurd H (by simp)
                    · rw [if_neg c12] at H
                      have c12b0 : decide (x39_3 < (l0.length : Int)) = false := decide_eq_false c12
                      clear c12
                      have H' := Aside0.mk H
                      clear H
                      go_wp2
                      repeat (go_quiet (fail); try go_wp2)
                      go_roundg k3
                      case measure => have := HJ1.out; have := HK2.out; have := HK3.out; omega
                      case rel => exact ⟨(x4_3), (wrap64 (x34_2 + 1)), (by first | rfl | (simp; done) | (simp [*]; done)), H', ⟨by have := HJ1.out; have := HK2.out; have := HK3.out; omega⟩, ⟨by (with_reducible repeat (first | apply Kd.R_alloc | apply Kd.R_drewN | apply Kd.R_drew)); exact HO_4.out⟩, ⟨by repeat (first | (with_reducible first | exact HB.out | apply below_alloc | apply pw_below_drewN | apply below_drew1) | exact HB.out)⟩⟩
              · rw [if_neg c11] at H
                have c11b0 : decide (x34_2 < ((rd_L1 l0 0).length : Int)) = false := decide_eq_false c11
                clear c11
                simp only [Option.some.injEq, Prod.mk.injEq] at H
                obtain ⟨rfl, rfl⟩ := H
                go_wp2
                repeat (go_quiet (fail); try go_wp2)
                go_ret2
                exact ⟨_, by first | rfl | (simp [errW_none, errW_some] <;> rfl) | (simp [*, errW_none, errW_some] <;> rfl), by (with_reducible repeat (first | apply Kd.R_alloc | apply Kd.R_drewN | apply Kd.R_drew)); exact HO_4.out, by repeat (first | (with_reducible first | exact HB.out | apply below_alloc | apply pw_below_drewN | apply below_drew1) | exact HB.out)⟩
        · rw [if_neg c10] at H
          exact absurd H (by simp)

/-! ### pick_two: an array of two numbers, read at an index -/
def pick_two.f (a0 a1 a2 : Int) : Option (Int) := if 0 ≤ a0 then (if a0 < 2 then (some (rd [a1, a2] a0)) else (none)) else (none)
theorem pick_two.run {a0 a1 a2 r : Int} (h : pick_two.f a0 a1 a2 = some r) (w : World) : (Instr.index 94 (.agg #[.int .i16 a1, .int .i16 a2]) (.int .i64 a0)).run Try.prog w = .ok (.int .i16 r) w := by
  unfold pick_two.f at h
  by_cases h0 : 0 ≤ a0
  · rw [if_pos h0] at h
    by_cases h1 : a0 < 2
    · rw [if_pos h1] at h
      obtain rfl := Option.some.inj h
      have hc : a0 = 0 ∨ a0 = 1 := by omega
      have at0 : ∀ w_ : World, (Instr.index 94 (.agg #[.int .i16 a1, .int .i16 a2]) (.int .i64 0)).run Try.prog w_ = .ok (.int .i16 a1) w_ := fun _ => by kernel_rfl
      have at1 : ∀ w_ : World, (Instr.index 94 (.agg #[.int .i16 a1, .int .i16 a2]) (.int .i64 1)).run Try.prog w_ = .ok (.int .i16 a2) w_ := fun _ => by kernel_rfl
      rcases hc with rfl | rfl
      · exact at0 w
      · exact at1 w
    · rw [if_neg h1] at h; cases h
  · rw [if_neg h0] at h; cases h

/-! ### mixer_Pan: function 48 -/
def mixer_Pan.l0 : Nat → List Int → List (List Int) → Int → Int → Int → Option (List Int × Int)
  | 0, _, _, _, _, _ => none
  | k + 1, x0, x6, x12, x14, x16 => if x16 < 2 then ((pick_two.f x16 x12 x14).bind fun t150 => ((mixer_Mix.f k x0 ([] : List Int) t150 0).bind fun t151 => (if 0 ≤ x16 then (if x16 < (x6.length : Int) then (mixer_Pan.l0 k x0 (x6.set (x16 : Int).toNat t151) x12 x14 (wrap64 (x16 + 1))) else (none)) else (none)))) else ((pcm_Weave.f k x6).bind fun bt155 => (some (bt155.1, bt155.2)))
def mixer_Pan.f (k : Nat) (l0 : List Int) (a1 : Int) : Option (List Int × Int) := if a1 < 0 then (some (([] : List Int), 1)) else (if 2 ≤ 11728124029610 then (mixer_Pan.l0 k l0 (List.replicate 2 []) a1 (IntKind.i16.wrap (32767 - a1)) 0) else (none))
theorem mixer_Pan.mono_l : ∀ k, (∀ y0 y1 y2 y3 y4, LeO (mixer_Pan.l0 k y0 y1 y2 y3 y4) (mixer_Pan.l0 (k + 1) y0 y1 y2 y3 y4))
  | 0 => fun _ _ _ _ _ r h => by simp [mixer_Pan.l0] at h
  | k + 1 => by
    have ih0 := mixer_Pan.mono_l k
    · intro y0 y1 y2 y3 y4
      unfold mixer_Pan.l0
      repeat' first
      | (with_reducible exact ih0 _ _ _ _ _)
      | (with_reducible exact mixer_Mix.mono _ _ _ _ _)
      | (with_reducible exact pcm_Weave.mono _ _)
      | (with_reducible exact LeO.refl _)
      | (with_reducible exact LeO.none _)
      | (with_reducible refine LeO.ite ?_ ?_)
      | (with_reducible refine LeO.bind ?_ (fun _ => ?_))
      | exact ih0 _ _ _ _ _
      | exact mixer_Mix.mono _ _ _ _ _
      | exact pcm_Weave.mono _ _
      | exact LeO.none _
      | refine LeO.ite ?_ ?_
      | refine LeO.bind ?_ (fun _ => ?_)
theorem mixer_Pan.mono : ∀ a0 a1 k, LeO (mixer_Pan.f k a0 a1) (mixer_Pan.f (k + 1) a0 a1) := by
  intro a0 a1 k
  have ih0 := mixer_Pan.mono_l k
  unfold mixer_Pan.f
  repeat' first
      | (with_reducible exact ih0 _ _ _ _ _)
      | (with_reducible exact mixer_Mix.mono _ _ _ _ _)
      | (with_reducible exact pcm_Weave.mono _ _)
      | (with_reducible exact LeO.refl _)
      | (with_reducible exact LeO.none _)
      | (with_reducible refine LeO.ite ?_ ?_)
      | (with_reducible refine LeO.bind ?_ (fun _ => ?_))
      | exact ih0 _ _ _ _ _
      | exact mixer_Mix.mono _ _ _ _ _
      | exact pcm_Weave.mono _ _
      | exact LeO.none _
      | refine LeO.ite ?_ ?_
      | refine LeO.bind ?_ (fun _ => ?_)
set_option maxHeartbeats 8000000 in
set_option maxRecDepth 100000 in
theorem mixer_Pan.calls (k : Nat) (A0 : Option Addr) (c0 : Nat) (l0 : List Int) (a1 : Int) (r1 : List Int) (r2 : Int) (w : World) (hr0 : Kd.C (Kd.int .i16) w A0 l0.length l0) (hc0 : l0.length ≤ c0) (h : mixer_Pan.f k l0 a1 = some (r1, r2)) :
    Calls Try.prog 48 #[.slice A0 l0.length c0, .int .i16 a1] w fun e w' => ∃ v0_ : Value, e = .returned (.tuple #[v0_, .int .i64 r2]) ∧ Kd.R (Kd.int .i16) 36 w' w.heap.size (fun _ => True) v0_ r1 ∧ Below w.heap.size w w' := by
  have HR0 := Aside0.mk hr0
  have HC0 := Aside0.mk hc0
  clear hr0 hc0
  have HB := Aside0.mk (Below.refl w.heap.size w)
  have H : (if a1 < 0 then (some (([] : List Int), 1)) else (if 2 ≤ 11728124029610 then (mixer_Pan.l0 k l0 (List.replicate 2 []) a1 (IntKind.i16.wrap (32767 - a1)) 0) else (none))) = some (r1, r2) := h
  clear h
  by_cases c3 : a1 < 0
  · rw [if_pos c3] at H
    have c3b0 : decide (a1 < 0) = true := decide_eq_true c3
    clear c3
    simp only [Option.some.injEq, Prod.mk.injEq] at H
    obtain ⟨rfl, rfl⟩ := H
    go_enter Try.func48, Try.ntmps48
    go_wp2
    go_ret2
    exact ⟨_, by first | rfl | (simp [errW_none, errW_some] <;> rfl) | (simp [*, errW_none, errW_some] <;> rfl), by first | exact Kd.R_nil _ _ _ _ _ | exact Kd.N_nil _ _ _ _ _ | exact Kd.V_nil _ _ _ _ _ | exact Kd.Q_nil _ _ _ _ _ | exact Kd.S_nil _ _ _ _ _, by repeat (first | (with_reducible first | exact HB.out | apply below_alloc | apply pw_below_drewN | apply below_drew1) | exact HB.out)⟩
  · rw [if_neg c3] at H
    have c3b0 : decide (a1 < 0) = false := decide_eq_false c3
    clear c3
    by_cases c4 : 2 ≤ 11728124029610
    · rw [if_pos c4] at H
      have c4b0 := eq_true c4
      have c4b1 : decide (2 ≤ 11728124029610) = true := decide_eq_true c4
      clear c4
      obtain ⟨y147, hy147⟩ : ∃ y_ : List (List Int), y_ = (List.replicate 2 []) := ⟨_, rfl⟩
      replace H : (mixer_Pan.l0 k l0 y147 a1 (IntKind.i16.wrap (32767 - a1)) 0) = some (r1, r2) := by first | (rw [hy147]; with_reducible exact H) | (have H2_ := (Option.bind_some _ _).symm.trans H; rw [hy147]; with_reducible exact H2_) | (have H2_ := (Option.bind_some _ _).symm.trans H; with_reducible exact H2_) | with_reducible exact H | (rw [hy147]; exact H) | exact H
      have Ny147 := Aside0.mk hy147
      clear hy147
      have H' := Aside0.mk H
      clear H
      go_enter Try.func48, Try.ntmps48
      go_wp2_with (first | ((with_reducible refine gate_dst (N := 11) rfl ?_); refine Kd.S_make (Kd.slice 36 (Kd.int .i16)) _ 22 rfl (N := 11) rfl 93 _ _ rfl 2 rfl rfl Try.underlying93 (.slice none 0 0) 24 info22 rfl (by decide) (by omega) [] (ok := fun _ => True) (okp := fun _ => True) ⟨_, rfl, Kd.R_nil _ _ _ _ _⟩ (fun _ hk => hk) trivial (by omega) (by omega) (Below.refl _ _) (Nat.le_refl _) ?_; intro v148 w5 ho6 hb hg_ hnew_; clear hg_ hnew_; (first | rw [← Ny147.out] at ho6 | (simp only [Int.reduceToNat] at ho6; rw [← Ny147.out] at ho6)); have n0_ := Aside0.mk (Kd.S_lower ho6 (below_size (by repeat (first | (with_reducible first | exact HB.out | apply below_alloc | apply pw_below_drewN | apply below_drew1) | exact HB.out)))); have n1_ := Aside0.mk (below_step (by repeat (first | (with_reducible first | exact HB.out | apply below_alloc | apply pw_below_drewN | apply below_drew1) | exact HB.out)) hb); clear HB; have HO149 := n0_; have HB := n1_; clear n0_ n1_; clear hb ho6))
      go_loopg [16] k (fun kq v16 w' => ∃ (x6_1 : List (List Int)) (x16_1 : Int), v16 = .int .i64 x16_1 ∧ Aside0 (mixer_Pan.l0 kq l0 x6_1 a1 (IntKind.i16.wrap (32767 - a1)) x16_1 = some (r1, r2)) ∧ Aside0 (kq ≤ k) ∧ Aside0 (Kd.S (Kd.slice 36 (Kd.int .i16)) 22 w' w.heap.size (fun _ => True) v148 x6_1) ∧ Aside0 (Below w.heap.size w w'))
      case atStart => exact ⟨(y147), (0), (by first | rfl | (simp; done) | (simp [*]; done)), H', ⟨Nat.le_refl _⟩, ⟨by (with_reducible repeat (first | apply Kd.S_alloc | apply Kd.S_drewN | apply Kd.S_drew)); exact HO149.out⟩, ⟨by repeat (first | (with_reducible first | exact HB.out | apply below_alloc | apply pw_below_drewN | apply below_drew1) | exact HB.out)⟩⟩
      case round =>
        clear H'
        try clear p2
        try clear c3
        try clear c3b0
        try clear c4
        try clear c4b0
        try clear c4b1
        obtain ⟨x6_1, x16_1, rfl, HA, HK1, HO_6, HB⟩ := hrel
        cases gk with
        | zero => exact absurd HA.out (by simp [mixer_Pan.l0])
        | succ k1 =>
          have H := HA.out
          clear HA
          simp only [mixer_Pan.l0] at H
          by_cases c7 : x16_1 < 2
          · rw [if_pos c7] at H
            have c7b0 : decide (x16_1 < 2) = true := decide_eq_true c7
            clear c7
            replace H := Option.bind_eq_some_iff.mp H
            obtain ⟨t150, A80, H⟩ := H
            replace H : ((mixer_Mix.f k1 l0 ([] : List Int) t150 0).bind fun t151 => (if 0 ≤ x16_1 then (if x16_1 < (x6_1.length : Int) then (mixer_Pan.l0 k1 l0 (x6_1.set (x16_1 : Int).toNat t151) a1 (IntKind.i16.wrap (32767 - a1)) (wrap64 (x16_1 + 1))) else (none)) else (none))) = some (r1, r2) := H
            have A8 := Aside0.mk A80
            have IA8 := fun w_ => pick_two.run A80 w_
            clear A80
            replace H := Option.bind_eq_some_iff.mp H
            obtain ⟨t151, A90, H⟩ := H
            replace H : (if 0 ≤ x16_1 then (if x16_1 < (x6_1.length : Int) then (mixer_Pan.l0 k1 l0 (x6_1.set (x16_1 : Int).toNat t151) a1 (IntKind.i16.wrap (32767 - a1)) (wrap64 (x16_1 + 1))) else (none)) else (none)) = some (r1, r2) := H
            have A9 := Aside0.mk A90
            clear A90
            by_cases c10 : 0 ≤ x16_1
            · rw [if_pos c10] at H
              have c10b0 : decide (0 ≤ x16_1) = true := decide_eq_true c10
              clear c10
              by_cases c11 : x16_1 < (x6_1.length : Int)
              · rw [if_pos c11] at H
                have c11b0 : decide (x16_1 < (x6_1.length : Int)) = true := decide_eq_true c11
                clear c11
                obtain ⟨y154, hy154⟩ : ∃ y_ : List (List Int), y_ = (x6_1.set (x16_1 : Int).toNat t151) := ⟨_, rfl⟩
                replace H : (mixer_Pan.l0 k1 l0 y154 a1 (IntKind.i16.wrap (32767 - a1)) (wrap64 (x16_1 + 1))) = some (r1, r2) := by first | (rw [hy154]; with_reducible exact H) | (have H2_ := (Option.bind_some _ _).symm.trans H; rw [hy154]; with_reducible exact H2_) | (have H2_ := (Option.bind_some _ _).symm.trans H; with_reducible exact H2_) | with_reducible exact H | (rw [hy154]; exact H) | exact H
                have Ny154 := Aside0.mk hy154
                clear hy154
                have H' := Aside0.mk H
                clear H
                go_wp2_with (first | ((with_reducible refine gate_callee (f := 94) rfl ?_); refine goesL_ (some 19) rfl rfl Try.func0 (by kernel_rfl) rfl #[.int .i64 x16_1, .int .i16 a1, .int .i16 (IntKind.i16.wrap (32767 - a1))] rfl (by (try simp only [List.map_toArray, List.map_cons, List.map_nil]); first | done | rfl | (simp only [List.length_drop, List.length_take]; rfl)) ?_; (with_reducible refine (pick_two.calls x16_1 a1 (IntKind.i16.wrap (32767 - a1)) t150 _ A8.out).mono ?_); rintro e w' ⟨rfl, ⟨nd, rfl⟩⟩; refine ⟨_, rfl, ?_⟩; (try (rw [drewN_self wr]; generalize hq_ : World.drewN wr _ = wr; have n0_ : Aside0 (Kd.S (Kd.slice 36 (Kd.int .i16)) 22 wr w.heap.size (fun _ => True) v148 x6_1) := ⟨by rw [← hq_]; exact (by (with_reducible repeat (first | apply Kd.S_alloc | apply Kd.S_drewN | apply Kd.S_drew)); exact HO_6.out)⟩; have n1_ : Aside0 (Below w.heap.size w wr) := ⟨by rw [← hq_]; exact (by repeat (first | (with_reducible first | exact HB.out | apply below_alloc | apply pw_below_drewN | apply below_drew1) | exact HB.out))⟩; clear HO_6 HB hq_; have HO_6 := n0_; have HB := n1_; clear n0_ n1_))) | ((with_reducible refine gate_callee (f := 41) rfl ?_); refine goesL_ (some 24) rfl rfl Try.func41 (by kernel_rfl) rfl #[.slice A0 l0.length c0, .slice none 0 0, .int .i16 t150, .int .i16 0] rfl (by (try simp only [List.map_toArray, List.map_cons, List.map_nil]); first | done | rfl | (simp only [List.length_drop, List.length_take]; rfl)) ?_; (refine (mixer_Mix.calls k1 _ _ l0 _ _ ([] : List Int) t150 0 t151 _ ?side1 ?side2 ?side3 ?side4 A9.out).mono ?_); (case side1 => repeat (first | exact (Kd.C_below HR0.out HB.out) | (with_reducible refine Kd.C_alloc ?_ _) | (with_reducible refine Kd.C_drewN ?_ _) | (with_reducible refine Kd.C_drew ?_))); (case side2 => exact HC0.out); (case side3 => exact Kd.C_nil _ _); (case side4 => exact Nat.le_refl _); rintro e w13 ⟨v152, rfl, ho0, hb⟩; refine ⟨_, rfl, ?_⟩; obtain ⟨Av_, cv_, ev_⟩ := Kd.R_slice ho0; subst ev_; have n0_ := Aside0.mk (Kd.S_elder' (by (with_reducible repeat (first | apply Kd.S_alloc | apply Kd.S_drewN | apply Kd.S_drew)); exact HO_6.out) (Kd.R_base ho0) hb); have n1_ := Aside0.mk (Kd.R_lower ho0 (below_size (by repeat (first | (with_reducible first | exact HB.out | apply below_alloc | apply pw_below_drewN | apply below_drew1) | exact HB.out)))); have n2_ := Aside0.mk (below_step (by repeat (first | (with_reducible first | exact HB.out | apply below_alloc | apply pw_below_drewN | apply below_drew1) | exact HB.out)) hb); clear HO_6; clear HB; have HO_6 := n0_; have HO153 := n1_; have HB := n2_; clear n0_ n1_ n2_; (try clear hb); (try clear hb2); (try clear hk); (try clear hi); (try clear ho0); have p12 : 0 ≤ (x16_1 : Int) := of_decide_eq_true (by first | (with_reducible assumption) | assumption); have q12 : (x16_1 : Int) < ((x6_1.length : Int) : Int) := of_decide_eq_true (by first | (with_reducible assumption) | assumption); obtain ⟨go12, co12, eo12, gb12, gl12, cl12, HG12⟩ := Kd.S_form HO_6.out (by omega); (first | cases eo12 | (injection eo12 with ea_ en_ ec_; (first | subst ea_ | (injection ea_ with ea_; subst ea_)); subst ec_; clear en_)); have GB12 := Aside0.mk gb12; have GG12 := Aside0.mk HG12; clear gb12 gl12 HG12; obtain ⟨_, ce12, hcl12, hM12, hcc12, hfr12, _, _⟩ := Kd.S_elem HO_6.out [] (x16_1 : Int) p12 q12; obtain ⟨ve12_0, rfl, ge12_0⟩ := hM12; have hx12_0 := hcc12 0 _ rfl; have hf12_0 := hfr12 0; (try simp only [show ((Kd.slice 36 (Kd.int .i16))).sz = 1 from rfl, Nat.mul_one, Nat.add_zero] at hx12_0); (try simp only [show ((Kd.slice 36 (Kd.int .i16))).sz = 1 from rfl, Nat.mul_one, Nat.add_zero] at hf12_0); (try clear hM12); (try clear hcl12 hcc12 hfr12); replace p12 := eq_true p12; replace q12 := eq_true q12; have n_ := Aside0.mk (Kd.S_mono (ok' := (fun k_ => some k_ ≠ ((.slice Av_ t151.length cv_ : Value) : Value).ownBlock)) HO_6.out (fun k_ hk => hk.2)); clear HO_6; have HO_6 := n_; clear n_; have HX14 := Aside0.mk (show Kd.S (Kd.slice 36 (Kd.int .i16)) 22 w13 w.heap.size (fun k_ => ((fun _ => True)) k_ ∧ ¬ ((fun k_ => some k_ = ((.slice Av_ t151.length cv_ : Value) : Value).ownBlock)) k_) (.slice (some ⟨go12, 0, none⟩) x6_1.length co12) x6_1 from (by (with_reducible repeat (first | apply Kd.S_alloc | apply Kd.S_drewN | apply Kd.S_drew)); exact Kd.S_mono HO_6.out (fun k_ hk => ⟨trivial, fun e_ => hk e_⟩))); obtain ⟨oki14, ce14, hcl14, hM14, hcc14, hfr14, hoki14, hH14⟩ := Kd.S_elem HX14.out [] (x16_1 : Int) (of_decide_eq_true (by first | (with_reducible assumption) | assumption)) (by have h_ : (x16_1 : Int) < ((x6_1.length : Int) : Int) := of_decide_eq_true (by first | (with_reducible assumption) | assumption); first | exact h_ | (have e_ := (Kd.S_reads' HO_6.out).1; omega) | simpa using h_); obtain ⟨ve14_0, rfl, ge14_0⟩ := hM14; have HP14 := Kd.S_seg hH14 (of_decide_eq_true (by first | (with_reducible assumption) | assumption)) (by have h_ : (x16_1 : Int) < ((x6_1.length : Int) : Int) := of_decide_eq_true (by first | (with_reducible assumption) | assumption); first | exact h_ | (have e_ := (Kd.S_reads' HO_6.out).1; omega) | simpa using h_) (seg := [(.slice Av_ t151.length cv_ : Value)]) (j := 0) (show 1 ≤ 1 from by decide) (x' := t151) (Kd.M_row (Kd.R_mono (Kd.R_tight rfl (Kd.R_mono (ok' := fun k_ => ((fun _ => True)) k_ ∧ k_ ≠ go12) (Kd.R_apart' (HO153.out) (Kd.S_typed HO_6.out) (by decide)) (fun k_ hk => ⟨trivial, fun e_ => (hk.2) (by rw [e_]; rfl)⟩))) (fun _ h_ => Or.inr (h_)))) (fun _ hk => hk) (fun k_ hk_ => ((Kd.R_mono (ok' := fun k_ => ((fun _ => True)) k_ ∧ k_ ≠ go12) (Kd.R_apart' (HO153.out) (Kd.S_typed HO_6.out) (by decide)) (fun k_ hk => ⟨trivial, fun e_ => (hk.2) (by rw [e_]; rfl)⟩))).1 k_ hk_.symm); have hx14_0 := hcc14 0 _ rfl; (try simp only [show ((Kd.slice 36 (Kd.int .i16))).sz = 1 from rfl, Nat.mul_one, Nat.add_zero] at hx14_0); have hf14_0 := hfr14 0; (try simp only [show ((Kd.slice 36 (Kd.int .i16))).sz = 1 from rfl, Nat.mul_one, Nat.add_zero] at hf14_0); (try clear hM14); (try clear hcl14 hcc14 hfr14 hoki14 hH14); (try simp only [show ((Kd.slice 36 (Kd.int .i16))).sz = 1 from rfl, Nat.mul_one, Nat.add_zero] at HP14)) | ((with_reducible refine gate_store (t := 22) (p := 25) rfl ?_); refine store_event (t := 22) (p := 25) (v := ?vo_w15) (w1 := (w13.setCell ⟨go12, (x16_1 : Int).toNat, none⟩ ((.slice Av_ t151.length cv_ : Value)))) ?hg ?ho ?hn ?hr ?_; (case ho => rfl); (case hg => rfl); (case hn => rfl); (case hr => first | (go_simp; done) | (go_simp; rfl)); intro w15 hw; have hg : w13.grownBy w15 (some go12) := (by rw [hw]; exact HP14.2); have hp_ : Kd.S (Kd.slice 36 (Kd.int .i16)) 22 w15 w.heap.size (fun _ => True) (.slice (some ⟨go12, 0, none⟩) x6_1.length co12) y154 := (by rw [hw, Ny154.out]; exact HP14.1); clear HP14; have n0_ := Aside0.mk (hp_); have n1_ := Aside0.mk ((by rw [hw]; exact below_set (HB.out) GB12.out : Below w.heap.size w w15)); clear HO_6; clear HB; clear HO153; have HO_6 := n0_; have HB := n1_; clear n0_ n1_; clear hg hw hp_))
                go_roundg k1
                case measure => have := HK1.out; omega
                case rel => exact ⟨(y154), (wrap64 (x16_1 + 1)), (by first | rfl | (simp; done) | (simp [*]; done)), H', ⟨by have := HK1.out; omega⟩, ⟨by (with_reducible repeat (first | apply Kd.S_alloc | apply Kd.S_drewN | apply Kd.S_drew)); exact HO_6.out⟩, ⟨by repeat (first | (with_reducible first | exact HB.out | apply below_alloc | apply pw_below_drewN | apply below_drew1) | exact HB.out)⟩⟩
              · rw [if_neg c11] at H
                exact absurd H (by simp)
            · rw [if_neg c10] at H
              exact absurd H (by simp)
          · rw [if_neg c7] at H
            have c7b0 : decide (x16_1 < 2) = false := decide_eq_false c7
            clear c7
            replace H := Option.bind_eq_some_iff.mp H
            obtain ⟨⟨t155, t156⟩, A160, H⟩ := H
            replace H : (some (t155, t156)) = some (r1, r2) := H
            have A16 := Aside0.mk A160
            clear A160
            simp only [Option.some.injEq, Prod.mk.injEq] at H
            obtain ⟨rfl, rfl⟩ := H
            obtain ⟨Ao17, co17, eo17⟩ := Kd.S_slice HO_6.out
            subst eo17
            go_wp2_with (first | ((with_reducible refine gate_callee (f := 74) rfl ?_); refine goesL_ (some 28) rfl rfl Try.func74 (by kernel_rfl) rfl #[.slice Ao17 x6_1.length co17] rfl (by (try simp only [List.map_toArray, List.map_cons, List.map_nil]); first | done | rfl | (simp only [List.length_drop, List.length_take]; rfl)) ?_; (with_reducible refine (pcm_Weave.calls k1 _ _ x6_1 t155 t156 _ ?side1 ?side2 A16.out).mono ?_); (case side1 => repeat (first | exact (Kd.S_reads' HO_6.out).2.2 | (with_reducible refine Kd.C_alloc ?_ _) | (with_reducible refine Kd.C_drewN ?_ _) | (with_reducible refine Kd.C_drew ?_))); (case side2 => exact (Kd.S_reads' HO_6.out).2.1); rintro e w18 ⟨v157, rfl, ho0, hb⟩; refine ⟨_, rfl, ?_⟩; have n0_ := Aside0.mk (Kd.S_elder' (by (with_reducible repeat (first | apply Kd.S_alloc | apply Kd.S_drewN | apply Kd.S_drew)); exact HO_6.out) (Kd.R_base ho0) hb); have n1_ := Aside0.mk (Kd.R_lower ho0 (below_size (by repeat (first | (with_reducible first | exact HB.out | apply below_alloc | apply pw_below_drewN | apply below_drew1) | exact HB.out)))); have n2_ := Aside0.mk (below_step (by repeat (first | (with_reducible first | exact HB.out | apply below_alloc | apply pw_below_drewN | apply below_drew1) | exact HB.out)) hb); clear HO_6; clear HB; have HO_6 := n0_; have HO158 := n1_; have HB := n2_; clear n0_ n1_ n2_; (try clear hb); (try clear hb2); (try clear hk); (try clear hi); (try clear ho0)))
            go_ret2
            exact ⟨_, by first | rfl | (simp [errW_none, errW_some] <;> rfl) | (simp [*, errW_none, errW_some] <;> rfl), by (with_reducible repeat (first | apply Kd.R_alloc | apply Kd.R_drewN | apply Kd.R_drew)); exact HO158.out, by repeat (first | (with_reducible first | exact HB.out | apply below_alloc | apply pw_below_drewN | apply below_drew1) | exact HB.out)⟩
    · rw [if_neg c4] at H
      exact absurd H (by simp)

/-! ### psalteryref01_Sat: function 27 -/
def psalteryref01_Sat.f (a0 : Int) (a1 : Int) : Option (Int) := if 0 ≤ (IntKind.u64.wrap (wrap64 (a1 - 1))) then (if a0 > (wrap64 ((shl .i64 1 (IntKind.u64.wrap (wrap64 (a1 - 1)))) - 1)) then (some (wrap64 ((shl .i64 1 (IntKind.u64.wrap (wrap64 (a1 - 1)))) - 1))) else (if a0 < (wrap64 ((wrap64 (-(wrap64 ((shl .i64 1 (IntKind.u64.wrap (wrap64 (a1 - 1)))) - 1)))) - 1)) then (some (wrap64 ((wrap64 (-(wrap64 ((shl .i64 1 (IntKind.u64.wrap (wrap64 (a1 - 1)))) - 1)))) - 1))) else (some a0))) else (none)
set_option maxHeartbeats 8000000 in
set_option maxRecDepth 100000 in
theorem psalteryref01_Sat.calls (a0 : Int) (a1 : Int) (r : Int) (w : World) (h : psalteryref01_Sat.f a0 a1 = some r) :
    Calls Try.prog 27 #[.int .i64 a0, .int .i64 a1] w fun e w' => e = .returned (.int .i64 r) ∧ Drawn0 w w' := by
  have H : (if 0 ≤ (IntKind.u64.wrap (wrap64 (a1 - 1))) then (if a0 > (wrap64 ((shl .i64 1 (IntKind.u64.wrap (wrap64 (a1 - 1)))) - 1)) then (some (wrap64 ((shl .i64 1 (IntKind.u64.wrap (wrap64 (a1 - 1)))) - 1))) else (if a0 < (wrap64 ((wrap64 (-(wrap64 ((shl .i64 1 (IntKind.u64.wrap (wrap64 (a1 - 1)))) - 1)))) - 1)) then (some (wrap64 ((wrap64 (-(wrap64 ((shl .i64 1 (IntKind.u64.wrap (wrap64 (a1 - 1)))) - 1)))) - 1))) else (some a0))) else (none)) = some r := h
  clear h
  obtain ⟨ji3, hji3⟩ : ∃ j_ : Int, (IntKind.u64.wrap (wrap64 (a1 - 1))) = j_ := ⟨_, rfl⟩
  replace H : (if 0 ≤ (ji3) then (if a0 > (wrap64 ((shl .i64 1 (ji3)) - 1)) then (some (wrap64 ((shl .i64 1 (ji3)) - 1))) else (if a0 < (wrap64 ((wrap64 (-(wrap64 ((shl .i64 1 (ji3)) - 1)))) - 1)) then (some (wrap64 ((wrap64 (-(wrap64 ((shl .i64 1 (ji3)) - 1)))) - 1))) else (some a0))) else (none)) = some r := by first | (rw [hji3] at H; exact H) | (simp only [hji3] at H ⊢; exact H)
  by_cases c4 : 0 ≤ (ji3)
  · rw [if_pos c4] at H
    have c4b0 := eq_true c4
    have c4b1 : decide (0 ≤ (ji3)) = true := decide_eq_true c4
    clear c4
    obtain ⟨ji5, hji5⟩ : ∃ j_ : Int, (shl .i64 1 (ji3)) = j_ := ⟨_, rfl⟩
    replace H : (if a0 > (wrap64 ((ji5) - 1)) then (some (wrap64 ((ji5) - 1))) else (if a0 < (wrap64 ((wrap64 (-(wrap64 ((ji5) - 1)))) - 1)) then (some (wrap64 ((wrap64 (-(wrap64 ((ji5) - 1)))) - 1))) else (some a0))) = some r := by first | (rw [hji5] at H; exact H) | (simp only [hji5] at H ⊢; exact H)
    have hji5_ : (IntKind.i64.wrap (1 * 2 ^ min (ji3).toNat 64)) = ji5 := hji5
    have hji5z : (ji3) ≤ 64 → (IntKind.i64.wrap (1 * 2 ^ (ji3).toNat)) = ji5 := shl_small hji5
    have hji5u : (IntKind.i64.wrap (2 ^ min (ji3).toNat 64)) = ji5 := by have h_ := hji5_; rw [Int.one_mul] at h_; exact h_
    have hji5v : (ji3) ≤ 64 → (IntKind.i64.wrap (2 ^ (ji3).toNat)) = ji5 := fun hle_ => by have h_ := hji5z hle_; rw [Int.one_mul] at h_; exact h_
    have hji5y : (wrap64 (1 * 2 ^ min (ji3).toNat 64)) = ji5 := (i64_w _).symm.trans hji5_
    have hji5x : (ji3) ≤ 64 → (wrap64 (1 * 2 ^ (ji3).toNat)) = ji5 := fun h_ => (i64_w _).symm.trans (hji5z h_)
    by_cases c6 : a0 > (wrap64 ((ji5) - 1))
    · rw [if_pos c6] at H
      have c6b0 : decide ((wrap64 ((ji5) - 1)) < a0) = true := decide_eq_true c6
      clear c6
      obtain rfl := Option.some.inj H
      go_enter Try.func27, Try.ntmps27
      go_wp2
      go_ret
      exact ⟨by first | rfl | (simp; done) | (simp only [← hji3, ← hji5] <;> (first | rfl | simp)) | (simp [*]; done), by repeat (first | exact Drawn0.refl _ | apply Drawn0.step)⟩
    · rw [if_neg c6] at H
      have c6b0 : decide ((wrap64 ((ji5) - 1)) < a0) = false := decide_eq_false c6
      clear c6
      by_cases c7 : a0 < (wrap64 ((wrap64 (-(wrap64 ((ji5) - 1)))) - 1))
      · rw [if_pos c7] at H
        have c7b0 : decide (a0 < (wrap64 ((wrap64 (-(wrap64 ((ji5) - 1)))) - 1))) = true := decide_eq_true c7
        clear c7
        obtain rfl := Option.some.inj H
        go_enter Try.func27, Try.ntmps27
        go_wp2
        go_ret
        exact ⟨by first | rfl | (simp; done) | (simp only [← hji3, ← hji5] <;> (first | rfl | simp)) | (simp [*]; done), by repeat (first | exact Drawn0.refl _ | apply Drawn0.step)⟩
      · rw [if_neg c7] at H
        have c7b0 : decide (a0 < (wrap64 ((wrap64 (-(wrap64 ((ji5) - 1)))) - 1))) = false := decide_eq_false c7
        clear c7
        obtain rfl := Option.some.inj H
        go_enter Try.func27, Try.ntmps27
        go_wp2
        go_ret
        exact ⟨by first | rfl | (simp; done) | (simp only [← hji3, ← hji5] <;> (first | rfl | simp)) | (simp [*]; done), by repeat (first | exact Drawn0.refl _ | apply Drawn0.step)⟩
  · rw [if_neg c4] at H
    exact absurd H (by simp)

/-! ### psalteryref33_at: function 60 -/
def psalteryref33_at.f (l0 : List Int) (a1 : Int) : Option (Int) := if a1 < (l0.length : Int) then (if 0 ≤ a1 then (some (wrap64 (rd l0 a1))) else (none)) else (some 0)
set_option maxHeartbeats 8000000 in
set_option maxRecDepth 100000 in
theorem psalteryref33_at.calls (A0 : Option Addr) (c0 : Nat) (l0 : List Int) (a1 : Int) (r : Int) (w : World) (hr0 : Kd.C (Kd.int .i16) w A0 l0.length l0) (hc0 : l0.length ≤ c0) (h : psalteryref33_at.f l0 a1 = some r) :
    Calls Try.prog 60 #[.slice A0 l0.length c0, .int .i64 a1] w fun e w' => e = .returned (.int .i64 r) ∧ Drawn0 w w' := by
  have HR0 := Aside0.mk hr0
  have HC0 := Aside0.mk hc0
  clear hr0 hc0
  have H : (if a1 < (l0.length : Int) then (if 0 ≤ a1 then (some (wrap64 (rd l0 a1))) else (none)) else (some 0)) = some r := h
  clear h
  by_cases c3 : a1 < (l0.length : Int)
  · rw [if_pos c3] at H
    have c3b0 : decide (a1 < (l0.length : Int)) = true := decide_eq_true c3
    clear c3
    by_cases c4 : 0 ≤ a1
    · rw [if_pos c4] at H
      have c4b0 : decide (0 ≤ a1) = true := decide_eq_true c4
      clear c4
      obtain rfl := Option.some.inj H
      have p159 : 0 ≤ (a1 : Int) := of_decide_eq_true (by first | (with_reducible assumption) | assumption)
      have q159 : a1 < (l0.length : Int) := of_decide_eq_true (by first | (with_reducible assumption) | assumption)
      obtain ⟨ad159, e159, hx159_0⟩ := Kd.at_int HR0.out a1 p159 q159
      cases e159
      replace p159 := eq_true p159
      replace q159 := eq_true q159
      go_enter Try.func60, Try.ntmps60
      go_wp2
      go_ret
      exact ⟨by first | rfl | (simp; done) | (simp [*]; done), by repeat (first | exact Drawn0.refl _ | apply Drawn0.step)⟩
    · rw [if_neg c4] at H
      exact absurd H (by simp)
  · rw [if_neg c3] at H
    have c3b0 : decide (a1 < (l0.length : Int)) = false := decide_eq_false c3
    clear c3
    obtain rfl := Option.some.inj H
    go_enter Try.func60, Try.ntmps60
    go_wp2
    go_ret
    exact ⟨by first | rfl | (simp; done) | (simp [*]; done), by repeat (first | exact Drawn0.refl _ | apply Drawn0.step)⟩

/-! ### psalteryref01_down: function 77 -/
def psalteryref01_down.f (a0 : Int) (a1 : Int) : Option (Int) := if a1 = 0 then (none) else (if (Int.tmod a0 a1) < 0 then (some (wrap64 ((wrap64 (Int.tdiv a0 a1)) - 1))) else (some (wrap64 (Int.tdiv a0 a1))))
set_option maxHeartbeats 8000000 in
set_option maxRecDepth 100000 in
theorem psalteryref01_down.calls (a0 : Int) (a1 : Int) (r : Int) (w : World) (h : psalteryref01_down.f a0 a1 = some r) :
    Calls Try.prog 77 #[.int .i64 a0, .int .i64 a1] w fun e w' => e = .returned (.int .i64 r) ∧ Drawn0 w w' := by
  have H : (if a1 = 0 then (none) else (if (Int.tmod a0 a1) < 0 then (some (wrap64 ((wrap64 (Int.tdiv a0 a1)) - 1))) else (some (wrap64 (Int.tdiv a0 a1))))) = some r := h
  clear h
  by_cases c3 : a1 = 0
  · rw [if_pos c3] at H
    exact absurd H (by simp)
  · rw [if_neg c3] at H
    have c3b0 : (a1 == 0) = false := beq_eq_false_iff_ne.mpr c3
    have c3b1 : (a1 != 0) = true := bne_iff_ne.mpr c3
    by_cases c4 : (Int.tmod a0 a1) < 0
    · rw [if_pos c4] at H
      have c4b0 : decide ((Int.tmod a0 a1) < 0) = true := decide_eq_true c4
      clear c4
      obtain rfl := Option.some.inj H
      go_enter Try.func77, Try.ntmps77
      go_wp2
      go_ret
      exact ⟨by first | rfl | (simp; done) | (simp [*]; done), by repeat (first | exact Drawn0.refl _ | apply Drawn0.step)⟩
    · rw [if_neg c4] at H
      have c4b0 : decide ((Int.tmod a0 a1) < 0) = false := decide_eq_false c4
      clear c4
      obtain rfl := Option.some.inj H
      go_enter Try.func77, Try.ntmps77
      go_wp2
      go_ret
      exact ⟨by first | rfl | (simp; done) | (simp [*]; done), by repeat (first | exact Drawn0.refl _ | apply Drawn0.step)⟩

end Go.Proofs.Ytnaeondfkkiimaa.PMixer
