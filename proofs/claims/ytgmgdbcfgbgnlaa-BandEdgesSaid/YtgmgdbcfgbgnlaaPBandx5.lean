/- Contracts of the functions that the law Band reaches: each Go function as a Lean function, and that the Go text comes to it. Written by programs (wip/tools), out of the program's own loaded form. -/
import Derived.Test.YtgmgdbcfgbgnlaaPBandx0
import Derived.Test.YtgmgdbcfgbgnlaaPBandx1
import Derived.Test.YtgmgdbcfgbgnlaaPBandx2
import Derived.Test.YtgmgdbcfgbgnlaaPBandx4
namespace Go.Proofs.Ytgmgdbcfgbgnlaa.PBand
open Go.RowKit Go.Proofs.YtgmgdbcfgbgnlaaW.PrintWords Go.Proofs.YtgmgdbcfgbgnlaaW.PrintLast Go.Proofs.YtgmgdbcfgbgnlaaW.PrintMore
attribute [local go_sem] max2_int min2_int max_two min_two max_three min_three max_four min_four   -- for this text's walks alone
set_option linter.unusedVariables false
set_option linter.unusedSimpArgs false

/-! ### psalterylaw15_BandLittle: function 12 -/
def psalterylaw15_BandLittle.j0 : Nat → List Int → Int → Int → Bool → Option (Bool)
  | 0, _, _, _, _ => none
  | k + 1, x0, x3, x5, x42 => if x42 = true then (some false) else (if x3 = 0 then (some true) else ((band_Narrow.f x0 (wrap64 (x3 - 1))).bind fun bt223 => ((psalterylaw15_sum.f k bt223.1).bind fun t227 => (some (decide ((IntKind.u64.wrap (x5 - t227)) > (IntKind.u64.wrap (Int.tdiv x5 4096))))))))
def psalterylaw15_BandLittle.f (k : Nat) (l0 : List Int) : Option (Bool) := (psalterylaw15_alive.f k).bind fun t214 => (if t214 = true then ((band_Width.f k l0).bind fun bt215 => (if bt215.2 = 0 then ((psalterylaw15_sum.f k l0).bind fun t217 => ((band_Narrow.f l0 bt215.1).bind fun bt218 => (if (bt218.1.length : Int) = (l0.length : Int) then ((psalterylaw15_sum.f k bt218.1).bind fun t222 => (psalterylaw15_BandLittle.j0 k l0 bt215.1 t217 (decide ((IntKind.u64.wrap (t217 - t222)) > (IntKind.u64.wrap (Int.tdiv t217 4096)))))) else (psalterylaw15_BandLittle.j0 k l0 bt215.1 t217 true)))) else (some (bt215.1 == 0)))) else (some false))
theorem psalterylaw15_BandLittle.mono_l : ∀ k, (∀ y0 y1 y2 y3, LeO (psalterylaw15_BandLittle.j0 k y0 y1 y2 y3) (psalterylaw15_BandLittle.j0 (k + 1) y0 y1 y2 y3))
  | 0 => fun _ _ _ _ r h => by simp [psalterylaw15_BandLittle.j0] at h
  | k + 1 => by
    have ih0 := psalterylaw15_BandLittle.mono_l k
    · intro y0 y1 y2 y3
      unfold psalterylaw15_BandLittle.j0
      repeat' first
      | (with_reducible exact ih0 _ _ _ _)
      | (with_reducible exact band_Width.mono _ _)
      | (with_reducible exact psalterylaw15_alive.mono _)
      | (with_reducible exact psalterylaw15_sum.mono _ _)
      | (with_reducible exact LeO.refl _)
      | (with_reducible exact LeO.none _)
      | (with_reducible refine LeO.ite ?_ ?_)
      | (with_reducible refine LeO.bind ?_ (fun _ => ?_))
      | exact ih0 _ _ _ _
      | exact band_Width.mono _ _
      | exact psalterylaw15_alive.mono _
      | exact psalterylaw15_sum.mono _ _
      | exact LeO.none _
      | refine LeO.ite ?_ ?_
      | refine LeO.bind ?_ (fun _ => ?_)
theorem psalterylaw15_BandLittle.mono : ∀ a0 k, LeO (psalterylaw15_BandLittle.f k a0) (psalterylaw15_BandLittle.f (k + 1) a0) := by
  intro a0 k
  have ih0 := psalterylaw15_BandLittle.mono_l k
  unfold psalterylaw15_BandLittle.f
  repeat' first
      | (with_reducible exact ih0 _ _ _ _)
      | (with_reducible exact band_Width.mono _ _)
      | (with_reducible exact psalterylaw15_alive.mono _)
      | (with_reducible exact psalterylaw15_sum.mono _ _)
      | (with_reducible exact LeO.refl _)
      | (with_reducible exact LeO.none _)
      | (with_reducible refine LeO.ite ?_ ?_)
      | (with_reducible refine LeO.bind ?_ (fun _ => ?_))
      | exact ih0 _ _ _ _
      | exact band_Width.mono _ _
      | exact psalterylaw15_alive.mono _
      | exact psalterylaw15_sum.mono _ _
      | exact LeO.none _
      | refine LeO.ite ?_ ?_
      | refine LeO.bind ?_ (fun _ => ?_)
set_option maxHeartbeats 8000000 in
set_option maxRecDepth 100000 in
theorem psalterylaw15_BandLittle.calls (k : Nat) (A0 : Option Addr) (c0 : Nat) (l0 : List Int) (r : Bool) (w : World) (hr0 : Kd.C (Kd.int .i32) w A0 l0.length l0) (hc0 : l0.length ≤ c0) (h : psalterylaw15_BandLittle.f k l0 = some r) :
    Calls Try.prog 12 #[.slice A0 l0.length c0] w fun e w' => e = .returned (.bool r) ∧ Below w.heap.size w w' := by
  have HR0 := Aside0.mk hr0
  have HC0 := Aside0.mk hc0
  clear hr0 hc0
  have HB := Aside0.mk (Below.refl w.heap.size w)
  have H : ((psalterylaw15_alive.f k).bind fun t214 => (if t214 = true then ((band_Width.f k l0).bind fun bt215 => (if bt215.2 = 0 then ((psalterylaw15_sum.f k l0).bind fun t217 => ((band_Narrow.f l0 bt215.1).bind fun bt218 => (if (bt218.1.length : Int) = (l0.length : Int) then ((psalterylaw15_sum.f k bt218.1).bind fun t222 => (psalterylaw15_BandLittle.j0 k l0 bt215.1 t217 (decide ((IntKind.u64.wrap (t217 - t222)) > (IntKind.u64.wrap (Int.tdiv t217 4096)))))) else (psalterylaw15_BandLittle.j0 k l0 bt215.1 t217 true)))) else (some (bt215.1 == 0)))) else (some false))) = some r := h
  clear h
  replace H := Option.bind_eq_some_iff.mp H
  obtain ⟨t214, A20, H⟩ := H
  replace H : (if t214 = true then ((band_Width.f k l0).bind fun bt215 => (if bt215.2 = 0 then ((psalterylaw15_sum.f k l0).bind fun t217 => ((band_Narrow.f l0 bt215.1).bind fun bt218 => (if (bt218.1.length : Int) = (l0.length : Int) then ((psalterylaw15_sum.f k bt218.1).bind fun t222 => (psalterylaw15_BandLittle.j0 k l0 bt215.1 t217 (decide ((IntKind.u64.wrap (t217 - t222)) > (IntKind.u64.wrap (Int.tdiv t217 4096)))))) else (psalterylaw15_BandLittle.j0 k l0 bt215.1 t217 true)))) else (some (bt215.1 == 0)))) else (some false)) = some r := H
  have A2 := Aside0.mk A20
  clear A20
  by_cases c3 : t214 = true
  · subst c3
    have H1 : ((band_Width.f k l0).bind fun bt215 => (if bt215.2 = 0 then ((psalterylaw15_sum.f k l0).bind fun t217 => ((band_Narrow.f l0 bt215.1).bind fun bt218 => (if (bt218.1.length : Int) = (l0.length : Int) then ((psalterylaw15_sum.f k bt218.1).bind fun t222 => (psalterylaw15_BandLittle.j0 k l0 bt215.1 t217 (decide ((IntKind.u64.wrap (t217 - t222)) > (IntKind.u64.wrap (Int.tdiv t217 4096)))))) else (psalterylaw15_BandLittle.j0 k l0 bt215.1 t217 true)))) else (some (bt215.1 == 0)))) = some r := by rw [if_pos rfl] at H; exact H
    clear H
    have H := H1
    clear H1
    replace H := Option.bind_eq_some_iff.mp H
    obtain ⟨⟨t215, t216⟩, A40, H⟩ := H
    replace H : (if t216 = 0 then ((psalterylaw15_sum.f k l0).bind fun t217 => ((band_Narrow.f l0 t215).bind fun bt218 => (if (bt218.1.length : Int) = (l0.length : Int) then ((psalterylaw15_sum.f k bt218.1).bind fun t222 => (psalterylaw15_BandLittle.j0 k l0 t215 t217 (decide ((IntKind.u64.wrap (t217 - t222)) > (IntKind.u64.wrap (Int.tdiv t217 4096)))))) else (psalterylaw15_BandLittle.j0 k l0 t215 t217 true)))) else (some (t215 == 0))) = some r := H
    have A4 := Aside0.mk A40
    clear A40
    by_cases c5 : t216 = 0
    · rw [if_pos c5] at H
      have c5b0 : (t216 == 0) = true := beq_iff_eq.mpr c5
      have c5b1 : (t216 != 0) = false := bne_eq_false_iff_eq.mpr c5
      clear c5
      replace H := Option.bind_eq_some_iff.mp H
      obtain ⟨t217, A60, H⟩ := H
      replace H : ((band_Narrow.f l0 t215).bind fun bt218 => (if (bt218.1.length : Int) = (l0.length : Int) then ((psalterylaw15_sum.f k bt218.1).bind fun t222 => (psalterylaw15_BandLittle.j0 k l0 t215 t217 (decide ((IntKind.u64.wrap (t217 - t222)) > (IntKind.u64.wrap (Int.tdiv t217 4096)))))) else (psalterylaw15_BandLittle.j0 k l0 t215 t217 true))) = some r := H
      have A6 := Aside0.mk A60
      clear A60
      replace H := Option.bind_eq_some_iff.mp H
      obtain ⟨⟨t218, t219⟩, A70, H⟩ := H
      replace H : (if (t218.length : Int) = (l0.length : Int) then ((psalterylaw15_sum.f k t218).bind fun t222 => (psalterylaw15_BandLittle.j0 k l0 t215 t217 (decide ((IntKind.u64.wrap (t217 - t222)) > (IntKind.u64.wrap (Int.tdiv t217 4096)))))) else (psalterylaw15_BandLittle.j0 k l0 t215 t217 true)) = some r := H
      have A7 := Aside0.mk A70
      clear A70
      have HC8 := Aside0.mk H
      clear H
      go_enter Try.func12, Try.ntmps12
      go_upto_region 8 with (first | ((with_reducible refine gate_callee (f := 30) rfl ?_); refine goesL_ (some 10) rfl rfl Try.func30 (by kernel_rfl) rfl #[] rfl (by (try simp only [List.map_toArray, List.map_cons, List.map_nil]); first | done | rfl | (simp only [List.length_drop, List.length_take]; rfl)) ?_; (with_reducible refine (psalterylaw15_alive.calls k  true _ A2.out).mono ?_); rintro e w9 ⟨rfl, hb⟩; refine ⟨_, rfl, ?_⟩; have n0_ := Aside0.mk (below_step (by repeat (first | (with_reducible first | exact HB.out | apply below_alloc | apply pw_below_drewN | apply below_drew1) | exact HB.out)) hb); clear HB; have HB := n0_; clear n0_; (try clear hb); (try clear hb2); (try clear hk); (try clear hi)) | ((with_reducible refine gate_callee (f := 43) rfl ?_); refine goesL_ (some 14) rfl rfl Try.func43 (by kernel_rfl) rfl #[.slice A0 l0.length c0] rfl (by (try simp only [List.map_toArray, List.map_cons, List.map_nil]); first | done | rfl | (simp only [List.length_drop, List.length_take]; rfl)) ?_; (with_reducible refine (band_Width.calls k _ _ l0 t215 t216 _ ?side1 ?side2 A4.out).mono ?_); (case side1 => repeat (first | exact (Kd.C_below HR0.out HB.out) | (with_reducible refine Kd.C_alloc ?_ _) | (with_reducible refine Kd.C_drewN ?_ _) | (with_reducible refine Kd.C_drew ?_))); (case side2 => exact HC0.out); rintro e w10 ⟨rfl, hb⟩; refine ⟨_, rfl, ?_⟩; have n0_ := Aside0.mk (below_step (by repeat (first | (with_reducible first | exact HB.out | apply below_alloc | apply pw_below_drewN | apply below_drew1) | exact HB.out)) hb); clear HB; have HB := n0_; clear n0_; (try clear hb); (try clear hb2); (try clear hk); (try clear hi)) | ((with_reducible refine gate_callee (f := 50) rfl ?_); refine goesL_ (some 22) rfl rfl Try.func50 (by kernel_rfl) rfl #[.slice A0 l0.length c0] rfl (by (try simp only [List.map_toArray, List.map_cons, List.map_nil]); first | done | rfl | (simp only [List.length_drop, List.length_take]; rfl)) ?_; (with_reducible refine (psalterylaw15_sum.calls k _ _ l0 t217 _ ?side1 ?side2 A6.out).mono ?_); (case side1 => repeat (first | exact (Kd.C_below HR0.out HB.out) | (with_reducible refine Kd.C_alloc ?_ _) | (with_reducible refine Kd.C_drewN ?_ _) | (with_reducible refine Kd.C_drew ?_))); (case side2 => exact HC0.out); rintro e w11 ⟨rfl, hb⟩; refine ⟨_, rfl, ?_⟩; have n0_ := Aside0.mk (below_step (by repeat (first | (with_reducible first | exact HB.out | apply below_alloc | apply pw_below_drewN | apply below_drew1) | exact HB.out)) hb); clear HB; have HB := n0_; clear n0_; (try clear hb); (try clear hb2); (try clear hk); (try clear hi)) | ((with_reducible refine gate_callee (f := 44) rfl ?_); refine goesL_ (some 26) rfl rfl Try.func44 (by kernel_rfl) rfl #[.slice A0 l0.length c0, .int .i64 t215] rfl (by (try simp only [List.map_toArray, List.map_cons, List.map_nil]); first | done | rfl | (simp only [List.length_drop, List.length_take]; rfl)) ?_; (with_reducible refine (band_Narrow.calls _ _ l0 t215 t218 t219 _ ?side1 ?side2 A7.out).mono ?_); (case side1 => repeat (first | exact (Kd.C_below HR0.out HB.out) | (with_reducible refine Kd.C_alloc ?_ _) | (with_reducible refine Kd.C_drewN ?_ _) | (with_reducible refine Kd.C_drew ?_))); (case side2 => exact HC0.out); rintro e w12 ⟨v220, rfl, ho0, hb⟩; refine ⟨_, rfl, ?_⟩; have n0_ := Aside0.mk (Kd.R_lower ho0 (below_size (by repeat (first | (with_reducible first | exact HB.out | apply below_alloc | apply pw_below_drewN | apply below_drew1) | exact HB.out)))); have n1_ := Aside0.mk (below_step (by repeat (first | (with_reducible first | exact HB.out | apply below_alloc | apply pw_below_drewN | apply below_drew1) | exact HB.out)) hb); clear HB; have HO221 := n0_; have HB := n1_; clear n0_ n1_; (try clear hb); (try clear hb2); (try clear hk); (try clear hi); (try clear ho0)))
      (try simp only [Act.put, List.setIfInBounds_toArray, List.set_cons_zero, List.set_cons_succ])
      go_cut [42] (fun v42 wc => ∃ (kq : Nat) (x42_7 : Bool), v42 = .bool x42_7 ∧ Aside0 (psalterylaw15_BandLittle.j0 kq l0 t215 t217 x42_7 = some r) ∧ Aside0 (kq ≤ k) ∧ Aside0 (Below w.heap.size w wc))
      case first =>
        have H := HC8.out
        clear HC8
        by_cases c13 : (t218.length : Int) = (l0.length : Int)
        · rw [if_pos c13] at H
          have c13b0 : ((t218.length : Int) == (l0.length : Int)) = true := beq_iff_eq.mpr c13
          have c13b1 : ((t218.length : Int) != (l0.length : Int)) = false := bne_eq_false_iff_eq.mpr c13
          have c13b2 : (t218.length == l0.length) = true := by first | simpa using c13 | (simp at c13 ⊢; omega)
          clear c13
          (first | rw [c13b0] | (simp only [i64_w, i32_w]; rw [c13b0]) | skip)
          replace H := Option.bind_eq_some_iff.mp H
          obtain ⟨t222, A140, H⟩ := H
          replace H : (psalterylaw15_BandLittle.j0 k l0 t215 t217 (decide ((IntKind.u64.wrap (t217 - t222)) > (IntKind.u64.wrap (Int.tdiv t217 4096))))) = some r := H
          have A14 := Aside0.mk A140
          clear A140
          have H' := Aside0.mk H
          clear H
          obtain ⟨Ao15, co15, eo15⟩ := Kd.R_slice HO221.out
          subst eo15
          go_wp2_with (first | (go_at_call 50; (with_reducible refine (psalterylaw15_sum.calls k _ _ t218 t222 _ ?side1 ?side2 A14.out).mono ?_); (case side1 => repeat (first | exact (Kd.R_reads' HO221.out).2.2 | (with_reducible refine Kd.C_alloc ?_ _) | (with_reducible refine Kd.C_drewN ?_ _) | (with_reducible refine Kd.C_drew ?_))); (case side2 => exact (Kd.R_reads' HO221.out).2.1); rintro e w16 ⟨rfl, hb⟩; have n0_ := Aside0.mk (Kd.R_below (by (with_reducible repeat (first | apply Kd.R_alloc | apply Kd.R_drewN | apply Kd.R_drew)); exact HO221.out) hb); have n1_ := Aside0.mk (below_step (by repeat (first | (with_reducible first | exact HB.out | apply below_alloc | apply pw_below_drewN | apply below_drew1) | exact HB.out)) hb); clear HO221; clear HB; have HO221 := n0_; have HB := n1_; clear n0_ n1_; (try clear hb); (try clear hb2); (try clear hk); (try clear hi)))
          go_meet
          case rel => exact ⟨_, (decide ((IntKind.u64.wrap (t217 - t222)) > (IntKind.u64.wrap (Int.tdiv t217 4096)))), (by first | rfl | (simp; done) | (simp [*]; done)), H', ⟨by first | omega | exact Nat.le_refl _⟩, ⟨by repeat (first | (with_reducible first | exact HB.out | apply below_alloc | apply pw_below_drewN | apply below_drew1) | exact HB.out)⟩⟩
        · rw [if_neg c13] at H
          have c13b0 : ((t218.length : Int) == (l0.length : Int)) = false := beq_eq_false_iff_ne.mpr c13
          have c13b1 : ((t218.length : Int) != (l0.length : Int)) = true := bne_iff_ne.mpr c13
          have c13b2 : (t218.length == l0.length) = false := by first | simpa using c13 | (simp at c13 ⊢; omega)
          (first | rw [c13b0] | (simp only [i64_w, i32_w]; rw [c13b0]) | skip)
          have H' := Aside0.mk H
          clear H
          obtain ⟨Ao17, co17, eo17⟩ := Kd.R_slice HO221.out
          subst eo17
          go_wp2
          go_meet
          case rel => exact ⟨_, (true), (by first | rfl | (simp; done) | (simp [*]; done)), H', ⟨by first | omega | exact Nat.le_refl _⟩, ⟨by repeat (first | (with_reducible first | exact HB.out | apply below_alloc | apply pw_below_drewN | apply below_drew1) | exact HB.out)⟩⟩
      case rest =>
        clear HC8
        try clear c1
        try clear p2
        try clear c3
        try clear c4
        try clear c5
        try clear c5b0
        try clear c5b1
        try clear c12
        try clear c13
        try clear c13b0
        try clear c13b1
        try clear c13b2
        obtain ⟨kq, x42_7, rfl, HA, HJ7, HB⟩ := hcut
        cases kq with
        | zero => exact absurd HA.out (by simp [psalterylaw15_BandLittle.j0])
        | succ kj7 =>
          have H := HA.out
          clear HA
          simp only [psalterylaw15_BandLittle.j0] at H
          by_cases c18 : x42_7 = true
          · subst c18
            have H1 : (some false) = some r := by rw [if_pos rfl] at H; exact H
            clear H
            have H := H1
            clear H1
            obtain rfl := Option.some.inj H
            go_wp2
            go_ret
            exact ⟨by first | rfl | (simp [errW_none, errW_some] <;> rfl) | (simp [*, errW_none, errW_some] <;> rfl), by repeat (first | (with_reducible first | exact HB.out | apply below_alloc | apply pw_below_drewN | apply below_drew1) | exact HB.out)⟩
          · replace c18 := Bool.eq_false_iff.mpr c18
            subst c18
            have H1 : (if t215 = 0 then (some true) else ((band_Narrow.f l0 (wrap64 (t215 - 1))).bind fun bt223 => ((psalterylaw15_sum.f kj7 bt223.1).bind fun t227 => (some (decide ((IntKind.u64.wrap (t217 - t227)) > (IntKind.u64.wrap (Int.tdiv t217 4096)))))))) = some r := by rw [if_neg (show ¬ (false = true) by decide)] at H; exact H
            clear H
            have H := H1
            clear H1
            by_cases c19 : t215 = 0
            · rw [if_pos c19] at H
              have c19b0 : (t215 == 0) = true := beq_iff_eq.mpr c19
              have c19b1 : (t215 != 0) = false := bne_eq_false_iff_eq.mpr c19
              clear c19
              obtain rfl := Option.some.inj H
              go_wp2
              go_ret
              exact ⟨by first | rfl | (simp [errW_none, errW_some] <;> rfl) | (simp [*, errW_none, errW_some] <;> rfl), by repeat (first | (with_reducible first | exact HB.out | apply below_alloc | apply pw_below_drewN | apply below_drew1) | exact HB.out)⟩
            · rw [if_neg c19] at H
              have c19b0 : (t215 == 0) = false := beq_eq_false_iff_ne.mpr c19
              have c19b1 : (t215 != 0) = true := bne_iff_ne.mpr c19
              replace H := Option.bind_eq_some_iff.mp H
              obtain ⟨⟨t223, t224⟩, A200, H⟩ := H
              replace H : ((psalterylaw15_sum.f kj7 t223).bind fun t227 => (some (decide ((IntKind.u64.wrap (t217 - t227)) > (IntKind.u64.wrap (Int.tdiv t217 4096)))))) = some r := H
              have A20 := Aside0.mk A200
              clear A200
              replace H := Option.bind_eq_some_iff.mp H
              obtain ⟨t227, A210, H⟩ := H
              replace H : (some (decide ((IntKind.u64.wrap (t217 - t227)) > (IntKind.u64.wrap (Int.tdiv t217 4096))))) = some r := H
              have A21 := Aside0.mk A210
              clear A210
              obtain rfl := Option.some.inj H
              go_wp2_with (first | ((with_reducible refine gate_callee (f := 44) rfl ?_); refine goesL_ (some 49) rfl rfl Try.func44 (by kernel_rfl) rfl #[.slice A0 l0.length c0, .int .i64 (wrap64 (t215 - 1))] rfl (by (try simp only [List.map_toArray, List.map_cons, List.map_nil]); first | done | rfl | (simp only [List.length_drop, List.length_take]; rfl)) ?_; (with_reducible refine (band_Narrow.calls _ _ l0 (wrap64 (t215 - 1)) t223 t224 _ ?side1 ?side2 A20.out).mono ?_); (case side1 => repeat (first | exact (Kd.C_below HR0.out HB.out) | (with_reducible refine Kd.C_alloc ?_ _) | (with_reducible refine Kd.C_drewN ?_ _) | (with_reducible refine Kd.C_drew ?_))); (case side2 => exact HC0.out); rintro e w22 ⟨v225, rfl, ho0, hb⟩; refine ⟨_, rfl, ?_⟩; have n0_ := Aside0.mk (Kd.R_lower ho0 (below_size (by repeat (first | (with_reducible first | exact HB.out | apply below_alloc | apply pw_below_drewN | apply below_drew1) | exact HB.out)))); have n1_ := Aside0.mk (below_step (by repeat (first | (with_reducible first | exact HB.out | apply below_alloc | apply pw_below_drewN | apply below_drew1) | exact HB.out)) hb); clear HB; have HO226 := n0_; have HB := n1_; clear n0_ n1_; (try clear hb); (try clear hb2); (try clear hk); (try clear hi); (try clear ho0); obtain ⟨Ao23, co23, eo23⟩ := Kd.R_slice HO226.out; subst eo23) | ((with_reducible refine gate_callee (f := 50) rfl ?_); refine goesL_ (some 54) rfl rfl Try.func50 (by kernel_rfl) rfl #[.slice Ao23 t223.length co23] rfl (by (try simp only [List.map_toArray, List.map_cons, List.map_nil]); first | done | rfl | (simp only [List.length_drop, List.length_take]; rfl)) ?_; (with_reducible refine (psalterylaw15_sum.calls kj7 _ _ t223 t227 _ ?side1 ?side2 A21.out).mono ?_); (case side1 => repeat (first | exact (Kd.R_reads' HO226.out).2.2 | (with_reducible refine Kd.C_alloc ?_ _) | (with_reducible refine Kd.C_drewN ?_ _) | (with_reducible refine Kd.C_drew ?_))); (case side2 => exact (Kd.R_reads' HO226.out).2.1); rintro e w24 ⟨rfl, hb⟩; refine ⟨_, rfl, ?_⟩; have n0_ := Aside0.mk (Kd.R_below (by (with_reducible repeat (first | apply Kd.R_alloc | apply Kd.R_drewN | apply Kd.R_drew)); exact HO226.out) hb); have n1_ := Aside0.mk (below_step (by repeat (first | (with_reducible first | exact HB.out | apply below_alloc | apply pw_below_drewN | apply below_drew1) | exact HB.out)) hb); clear HO226; clear HB; have HO226 := n0_; have HB := n1_; clear n0_ n1_; (try clear hb); (try clear hb2); (try clear hk); (try clear hi)))
              go_ret
              exact ⟨by first | rfl | (simp [errW_none, errW_some] <;> rfl) | (simp [*, errW_none, errW_some] <;> rfl), by repeat (first | (with_reducible first | exact HB.out | apply below_alloc | apply pw_below_drewN | apply below_drew1) | exact HB.out)⟩
    · rw [if_neg c5] at H
      have c5b0 : (t216 == 0) = false := beq_eq_false_iff_ne.mpr c5
      have c5b1 : (t216 != 0) = true := bne_iff_ne.mpr c5
      obtain rfl := Option.some.inj H
      go_enter Try.func12, Try.ntmps12
      go_wp2_with (first | ((with_reducible refine gate_callee (f := 30) rfl ?_); refine goesL_ (some 10) rfl rfl Try.func30 (by kernel_rfl) rfl #[] rfl (by (try simp only [List.map_toArray, List.map_cons, List.map_nil]); first | done | rfl | (simp only [List.length_drop, List.length_take]; rfl)) ?_; (with_reducible refine (psalterylaw15_alive.calls k  true _ A2.out).mono ?_); rintro e w25 ⟨rfl, hb⟩; refine ⟨_, rfl, ?_⟩; have n0_ := Aside0.mk (below_step (by repeat (first | (with_reducible first | exact HB.out | apply below_alloc | apply pw_below_drewN | apply below_drew1) | exact HB.out)) hb); clear HB; have HB := n0_; clear n0_; (try clear hb); (try clear hb2); (try clear hk); (try clear hi)) | ((with_reducible refine gate_callee (f := 43) rfl ?_); refine goesL_ (some 14) rfl rfl Try.func43 (by kernel_rfl) rfl #[.slice A0 l0.length c0] rfl (by (try simp only [List.map_toArray, List.map_cons, List.map_nil]); first | done | rfl | (simp only [List.length_drop, List.length_take]; rfl)) ?_; (with_reducible refine (band_Width.calls k _ _ l0 t215 t216 _ ?side1 ?side2 A4.out).mono ?_); (case side1 => repeat (first | exact (Kd.C_below HR0.out HB.out) | (with_reducible refine Kd.C_alloc ?_ _) | (with_reducible refine Kd.C_drewN ?_ _) | (with_reducible refine Kd.C_drew ?_))); (case side2 => exact HC0.out); rintro e w26 ⟨rfl, hb⟩; refine ⟨_, rfl, ?_⟩; have n0_ := Aside0.mk (below_step (by repeat (first | (with_reducible first | exact HB.out | apply below_alloc | apply pw_below_drewN | apply below_drew1) | exact HB.out)) hb); clear HB; have HB := n0_; clear n0_; (try clear hb); (try clear hb2); (try clear hk); (try clear hi)))
      go_ret
      exact ⟨by first | rfl | (simp [errW_none, errW_some] <;> rfl) | (simp [*, errW_none, errW_some] <;> rfl), by repeat (first | (with_reducible first | exact HB.out | apply below_alloc | apply pw_below_drewN | apply below_drew1) | exact HB.out)⟩
  · replace c3 := Bool.eq_false_iff.mpr c3
    subst c3
    have H1 : (some false) = some r := by rw [if_neg (show ¬ (false = true) by decide)] at H; exact H
    clear H
    have H := H1
    clear H1
    obtain rfl := Option.some.inj H
    go_enter Try.func12, Try.ntmps12
    go_wp2_with (first | ((with_reducible refine gate_callee (f := 30) rfl ?_); refine goesL_ (some 10) rfl rfl Try.func30 (by kernel_rfl) rfl #[] rfl (by (try simp only [List.map_toArray, List.map_cons, List.map_nil]); first | done | rfl | (simp only [List.length_drop, List.length_take]; rfl)) ?_; (with_reducible refine (psalterylaw15_alive.calls k  false _ A2.out).mono ?_); rintro e w27 ⟨rfl, hb⟩; refine ⟨_, rfl, ?_⟩; have n0_ := Aside0.mk (below_step (by repeat (first | (with_reducible first | exact HB.out | apply below_alloc | apply pw_below_drewN | apply below_drew1) | exact HB.out)) hb); clear HB; have HB := n0_; clear n0_; (try clear hb); (try clear hb2); (try clear hk); (try clear hi)))
    go_ret
    exact ⟨by first | rfl | (simp [errW_none, errW_some] <;> rfl) | (simp [*, errW_none, errW_some] <;> rfl), by repeat (first | (with_reducible first | exact HB.out | apply below_alloc | apply pw_below_drewN | apply below_drew1) | exact HB.out)⟩

/-- THE ONE PURE STATEMENT of psalterylaw15_BandLittle: yours. -/
def psalterylaw15_BandLittle.Pure : Prop := ∀ (l0 : List Int), l0.length ≤ maxLen → l0.length * 4 ≤ 140737488351232 → (∀ x ∈ l0, (Lit.int .i32 x).wf = true) → ∃ k, psalterylaw15_BandLittle.f k l0 = some true
theorem psalterylaw15_BandLittle.walk (P : psalterylaw15_BandLittle.Pure) (a0 : Option Addr) (len0 cap0 : Nat) (z0 : List Int) (w : World) (w0 : (a0 = none ∧ len0 = 0 ∧ cap0 = 0 ∧ z0 = []) ∨ ∃ x, a0 = some x ∧ len0 ≤ cap0 ∧ cap0 ≤ maxLen ∧ z0.length = cap0 ∧ (∀ i, i < z0.length → w.cell? (x.add i) = some (.int .i32 (z0.getD i 0))) ∧ ∀ n ∈ z0, (Lit.int .i32 n).wf = true) (y0 : len0 * 4 ≤ 140737488351232) :
    Calls Try.prog 12 #[.slice a0 len0 cap0] w fun e w' => e = .returned (.bool true) ∧ Below w.heap.size w w' := by
  obtain ⟨l0, rfl, hr0, hm0, hw0, hc0⟩ := ReadsInt.ofRowC w0
  obtain ⟨k, h⟩ := P l0 hm0 y0 hw0
  refine (psalterylaw15_BandLittle.calls k _ _ l0 true w (Kd.C_of_reads (d := (0 : Int)) (h1 := fun _ => rfl) hr0) hc0 h).mono ?_
  rintro e w' ⟨rfl, hd⟩
  exact ⟨rfl, hd⟩

end Go.Proofs.Ytgmgdbcfgbgnlaa.PBand
