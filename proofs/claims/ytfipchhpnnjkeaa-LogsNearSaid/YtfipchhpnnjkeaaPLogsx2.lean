/- Contracts of the functions that the law Logs reaches: each Go function as a Lean function, and that the Go text comes to it. Written by programs (wip/tools), out of the program's own loaded form. -/
import Derived.Test.YtfipchhpnnjkeaaPLogsx0
import Derived.Test.YtfipchhpnnjkeaaPLogsx1
namespace Go.Proofs.Ytfipchhpnnjkeaa.PLogs
open Go.RowKit Go.Proofs.YtfipchhpnnjkeaaW.PrintWords Go.Proofs.YtfipchhpnnjkeaaW.PrintLast Go.Proofs.YtfipchhpnnjkeaaW.PrintMore
attribute [local go_sem] max2_int min2_int max_two min_two max_three min_three max_four min_four   -- for this text's walks alone
set_option linter.unusedVariables false
set_option linter.unusedSimpArgs false

/-! ### psalterylaw02_alive: function 21 -/
def psalterylaw02_alive.f (k : Nat)  : Option (Bool) := (logs_Log.f k 1).bind fun bt106 => ((logs_Log.f k 2).bind fun bt108 => ((logs_Exp.f k 256).bind fun bt110 => ((logs_Log.f k 0).bind fun bt112 => ((logs_Root.f k 99).bind fun t114 => (if t114 = 9 then (if bt106.1 = 0 then (if bt108.1 = 256 then (if bt110.1 = 131072 then (if bt106.2 = 0 then (if bt108.2 = 0 then (if bt110.2 = 0 then (some (bt112.2 == 1)) else (some false)) else (some false)) else (some false)) else (some false)) else (some false)) else (some false)) else (some false))))))
theorem psalterylaw02_alive.mono : ∀ k, LeO (psalterylaw02_alive.f k ) (psalterylaw02_alive.f (k + 1) ) := by
  intro  k
  unfold psalterylaw02_alive.f
  repeat' first
      | (with_reducible exact logs_Exp.mono _ _)
      | (with_reducible exact logs_Log.mono _ _)
      | (with_reducible exact logs_Root.mono _ _)
      | (with_reducible exact LeO.refl _)
      | (with_reducible exact LeO.none _)
      | (with_reducible refine LeO.ite ?_ ?_)
      | (with_reducible refine LeO.bind ?_ (fun _ => ?_))
      | exact logs_Exp.mono _ _
      | exact logs_Log.mono _ _
      | exact logs_Root.mono _ _
      | exact LeO.none _
      | refine LeO.ite ?_ ?_
      | refine LeO.bind ?_ (fun _ => ?_)
set_option maxHeartbeats 8000000 in
set_option maxRecDepth 100000 in
theorem psalterylaw02_alive.calls (k : Nat)  (r : Bool) (w : World) (h : psalterylaw02_alive.f k  = some r) :
    Calls Try.prog 21 #[] w fun e w' => e = .returned (.bool r) ∧ Below w.heap.size w w' := by
  have HB := Aside0.mk (Below.refl w.heap.size w)
  have H : ((logs_Log.f k 1).bind fun bt106 => ((logs_Log.f k 2).bind fun bt108 => ((logs_Exp.f k 256).bind fun bt110 => ((logs_Log.f k 0).bind fun bt112 => ((logs_Root.f k 99).bind fun t114 => (if t114 = 9 then (if bt106.1 = 0 then (if bt108.1 = 256 then (if bt110.1 = 131072 then (if bt106.2 = 0 then (if bt108.2 = 0 then (if bt110.2 = 0 then (some (bt112.2 == 1)) else (some false)) else (some false)) else (some false)) else (some false)) else (some false)) else (some false)) else (some false))))))) = some r := h
  clear h
  replace H := Option.bind_eq_some_iff.mp H
  obtain ⟨⟨t106, t107⟩, A10, H⟩ := H
  replace H : ((logs_Log.f k 2).bind fun bt108 => ((logs_Exp.f k 256).bind fun bt110 => ((logs_Log.f k 0).bind fun bt112 => ((logs_Root.f k 99).bind fun t114 => (if t114 = 9 then (if t106 = 0 then (if bt108.1 = 256 then (if bt110.1 = 131072 then (if t107 = 0 then (if bt108.2 = 0 then (if bt110.2 = 0 then (some (bt112.2 == 1)) else (some false)) else (some false)) else (some false)) else (some false)) else (some false)) else (some false)) else (some false)))))) = some r := H
  have A1 := Aside0.mk A10
  clear A10
  replace H := Option.bind_eq_some_iff.mp H
  obtain ⟨⟨t108, t109⟩, A20, H⟩ := H
  replace H : ((logs_Exp.f k 256).bind fun bt110 => ((logs_Log.f k 0).bind fun bt112 => ((logs_Root.f k 99).bind fun t114 => (if t114 = 9 then (if t106 = 0 then (if t108 = 256 then (if bt110.1 = 131072 then (if t107 = 0 then (if t109 = 0 then (if bt110.2 = 0 then (some (bt112.2 == 1)) else (some false)) else (some false)) else (some false)) else (some false)) else (some false)) else (some false)) else (some false))))) = some r := H
  have A2 := Aside0.mk A20
  clear A20
  replace H := Option.bind_eq_some_iff.mp H
  obtain ⟨⟨t110, t111⟩, A30, H⟩ := H
  replace H : ((logs_Log.f k 0).bind fun bt112 => ((logs_Root.f k 99).bind fun t114 => (if t114 = 9 then (if t106 = 0 then (if t108 = 256 then (if t110 = 131072 then (if t107 = 0 then (if t109 = 0 then (if t111 = 0 then (some (bt112.2 == 1)) else (some false)) else (some false)) else (some false)) else (some false)) else (some false)) else (some false)) else (some false)))) = some r := H
  have A3 := Aside0.mk A30
  clear A30
  replace H := Option.bind_eq_some_iff.mp H
  obtain ⟨⟨t112, t113⟩, A40, H⟩ := H
  replace H : ((logs_Root.f k 99).bind fun t114 => (if t114 = 9 then (if t106 = 0 then (if t108 = 256 then (if t110 = 131072 then (if t107 = 0 then (if t109 = 0 then (if t111 = 0 then (some (t113 == 1)) else (some false)) else (some false)) else (some false)) else (some false)) else (some false)) else (some false)) else (some false))) = some r := H
  have A4 := Aside0.mk A40
  clear A40
  replace H := Option.bind_eq_some_iff.mp H
  obtain ⟨t114, A50, H⟩ := H
  replace H : (if t114 = 9 then (if t106 = 0 then (if t108 = 256 then (if t110 = 131072 then (if t107 = 0 then (if t109 = 0 then (if t111 = 0 then (some (t113 == 1)) else (some false)) else (some false)) else (some false)) else (some false)) else (some false)) else (some false)) else (some false)) = some r := H
  have A5 := Aside0.mk A50
  clear A50
  by_cases c6 : t114 = 9
  · rw [if_pos c6] at H
    have c6b0 : (t114 == 9) = true := beq_iff_eq.mpr c6
    have c6b1 : (t114 != 9) = false := bne_eq_false_iff_eq.mpr c6
    clear c6
    by_cases c7 : t106 = 0
    · rw [if_pos c7] at H
      have c7b0 : (t106 == 0) = true := beq_iff_eq.mpr c7
      have c7b1 : (t106 != 0) = false := bne_eq_false_iff_eq.mpr c7
      clear c7
      by_cases c8 : t108 = 256
      · rw [if_pos c8] at H
        have c8b0 : (t108 == 256) = true := beq_iff_eq.mpr c8
        have c8b1 : (t108 != 256) = false := bne_eq_false_iff_eq.mpr c8
        clear c8
        by_cases c9 : t110 = 131072
        · rw [if_pos c9] at H
          have c9b0 : (t110 == 131072) = true := beq_iff_eq.mpr c9
          have c9b1 : (t110 != 131072) = false := bne_eq_false_iff_eq.mpr c9
          clear c9
          by_cases c10 : t107 = 0
          · rw [if_pos c10] at H
            have c10b0 : (t107 == 0) = true := beq_iff_eq.mpr c10
            have c10b1 : (t107 != 0) = false := bne_eq_false_iff_eq.mpr c10
            clear c10
            by_cases c11 : t109 = 0
            · rw [if_pos c11] at H
              have c11b0 : (t109 == 0) = true := beq_iff_eq.mpr c11
              have c11b1 : (t109 != 0) = false := bne_eq_false_iff_eq.mpr c11
              clear c11
              by_cases c12 : t111 = 0
              · rw [if_pos c12] at H
                have c12b0 : (t111 == 0) = true := beq_iff_eq.mpr c12
                have c12b1 : (t111 != 0) = false := bne_eq_false_iff_eq.mpr c12
                clear c12
                obtain rfl := Option.some.inj H
                go_enter Try.func21, Try.ntmps21
                go_wp2_with (first | ((with_reducible refine gate_callee (f := 22) rfl ?_); refine goesL_ (some 10) rfl rfl Try.func22 (by kernel_rfl) rfl #[.int .u64 1] rfl (by (try simp only [List.map_toArray, List.map_cons, List.map_nil]); first | done | rfl | (simp only [List.length_drop, List.length_take]; rfl)) ?_; (with_reducible refine (logs_Log.calls k 1 t106 t107 _ A1.out).mono ?_); rintro e w13 ⟨rfl, hb⟩; refine ⟨_, rfl, ?_⟩; have n0_ := Aside0.mk (below_step (by repeat (first | (with_reducible first | exact HB.out | apply below_alloc | apply pw_below_drewN | apply below_drew1) | exact HB.out)) hb); clear HB; have HB := n0_; clear n0_; (try clear hb); (try clear hb2); (try clear hk); (try clear hi)) | ((with_reducible refine gate_callee (f := 22) rfl ?_); refine goesL_ (some 14) rfl rfl Try.func22 (by kernel_rfl) rfl #[.int .u64 2] rfl (by (try simp only [List.map_toArray, List.map_cons, List.map_nil]); first | done | rfl | (simp only [List.length_drop, List.length_take]; rfl)) ?_; (with_reducible refine (logs_Log.calls k 2 t108 t109 _ A2.out).mono ?_); rintro e w14 ⟨rfl, hb⟩; refine ⟨_, rfl, ?_⟩; have n0_ := Aside0.mk (below_step (by repeat (first | (with_reducible first | exact HB.out | apply below_alloc | apply pw_below_drewN | apply below_drew1) | exact HB.out)) hb); clear HB; have HB := n0_; clear n0_; (try clear hb); (try clear hb2); (try clear hk); (try clear hi)) | ((with_reducible refine gate_callee (f := 28) rfl ?_); refine goesL_ (some 18) rfl rfl Try.func28 (by kernel_rfl) rfl #[.int .i32 256] rfl (by (try simp only [List.map_toArray, List.map_cons, List.map_nil]); first | done | rfl | (simp only [List.length_drop, List.length_take]; rfl)) ?_; (with_reducible refine (logs_Exp.calls k 256 t110 t111 _ A3.out).mono ?_); rintro e w' ⟨rfl, ⟨nd, rfl⟩⟩; refine ⟨_, rfl, ?_⟩) | ((with_reducible refine gate_callee (f := 22) rfl ?_); refine goesL_ (some 22) rfl rfl Try.func22 (by kernel_rfl) rfl #[.int .u64 0] rfl (by (try simp only [List.map_toArray, List.map_cons, List.map_nil]); first | done | rfl | (simp only [List.length_drop, List.length_take]; rfl)) ?_; (with_reducible refine (logs_Log.calls k 0 t112 t113 _ A4.out).mono ?_); rintro e w15 ⟨rfl, hb⟩; refine ⟨_, rfl, ?_⟩; have n0_ := Aside0.mk (below_step (by repeat (first | (with_reducible first | exact HB.out | apply below_alloc | apply pw_below_drewN | apply below_drew1) | exact HB.out)) hb); clear HB; have HB := n0_; clear n0_; (try clear hb); (try clear hb2); (try clear hk); (try clear hi)) | ((with_reducible refine gate_callee (f := 24) rfl ?_); refine goesL_ (some 25) rfl rfl Try.func24 (by kernel_rfl) rfl #[.int .u64 99] rfl (by (try simp only [List.map_toArray, List.map_cons, List.map_nil]); first | done | rfl | (simp only [List.length_drop, List.length_take]; rfl)) ?_; (with_reducible refine (logs_Root.calls k 99 t114 _ A5.out).mono ?_); rintro e w' ⟨rfl, ⟨nd, rfl⟩⟩; refine ⟨_, rfl, ?_⟩))
                go_ret
                exact ⟨by first | rfl | (simp [errW_none, errW_some] <;> rfl) | (simp [*, errW_none, errW_some] <;> rfl), by repeat (first | (with_reducible first | exact HB.out | apply below_alloc | apply pw_below_drewN | apply below_drew1) | exact HB.out)⟩
              · rw [if_neg c12] at H
                have c12b0 : (t111 == 0) = false := beq_eq_false_iff_ne.mpr c12
                have c12b1 : (t111 != 0) = true := bne_iff_ne.mpr c12
                obtain rfl := Option.some.inj H
                go_enter Try.func21, Try.ntmps21
                go_wp2_with (first | ((with_reducible refine gate_callee (f := 22) rfl ?_); refine goesL_ (some 10) rfl rfl Try.func22 (by kernel_rfl) rfl #[.int .u64 1] rfl (by (try simp only [List.map_toArray, List.map_cons, List.map_nil]); first | done | rfl | (simp only [List.length_drop, List.length_take]; rfl)) ?_; (with_reducible refine (logs_Log.calls k 1 t106 t107 _ A1.out).mono ?_); rintro e w16 ⟨rfl, hb⟩; refine ⟨_, rfl, ?_⟩; have n0_ := Aside0.mk (below_step (by repeat (first | (with_reducible first | exact HB.out | apply below_alloc | apply pw_below_drewN | apply below_drew1) | exact HB.out)) hb); clear HB; have HB := n0_; clear n0_; (try clear hb); (try clear hb2); (try clear hk); (try clear hi)) | ((with_reducible refine gate_callee (f := 22) rfl ?_); refine goesL_ (some 14) rfl rfl Try.func22 (by kernel_rfl) rfl #[.int .u64 2] rfl (by (try simp only [List.map_toArray, List.map_cons, List.map_nil]); first | done | rfl | (simp only [List.length_drop, List.length_take]; rfl)) ?_; (with_reducible refine (logs_Log.calls k 2 t108 t109 _ A2.out).mono ?_); rintro e w17 ⟨rfl, hb⟩; refine ⟨_, rfl, ?_⟩; have n0_ := Aside0.mk (below_step (by repeat (first | (with_reducible first | exact HB.out | apply below_alloc | apply pw_below_drewN | apply below_drew1) | exact HB.out)) hb); clear HB; have HB := n0_; clear n0_; (try clear hb); (try clear hb2); (try clear hk); (try clear hi)) | ((with_reducible refine gate_callee (f := 28) rfl ?_); refine goesL_ (some 18) rfl rfl Try.func28 (by kernel_rfl) rfl #[.int .i32 256] rfl (by (try simp only [List.map_toArray, List.map_cons, List.map_nil]); first | done | rfl | (simp only [List.length_drop, List.length_take]; rfl)) ?_; (with_reducible refine (logs_Exp.calls k 256 t110 t111 _ A3.out).mono ?_); rintro e w' ⟨rfl, ⟨nd, rfl⟩⟩; refine ⟨_, rfl, ?_⟩) | ((with_reducible refine gate_callee (f := 22) rfl ?_); refine goesL_ (some 22) rfl rfl Try.func22 (by kernel_rfl) rfl #[.int .u64 0] rfl (by (try simp only [List.map_toArray, List.map_cons, List.map_nil]); first | done | rfl | (simp only [List.length_drop, List.length_take]; rfl)) ?_; (with_reducible refine (logs_Log.calls k 0 t112 t113 _ A4.out).mono ?_); rintro e w18 ⟨rfl, hb⟩; refine ⟨_, rfl, ?_⟩; have n0_ := Aside0.mk (below_step (by repeat (first | (with_reducible first | exact HB.out | apply below_alloc | apply pw_below_drewN | apply below_drew1) | exact HB.out)) hb); clear HB; have HB := n0_; clear n0_; (try clear hb); (try clear hb2); (try clear hk); (try clear hi)) | ((with_reducible refine gate_callee (f := 24) rfl ?_); refine goesL_ (some 25) rfl rfl Try.func24 (by kernel_rfl) rfl #[.int .u64 99] rfl (by (try simp only [List.map_toArray, List.map_cons, List.map_nil]); first | done | rfl | (simp only [List.length_drop, List.length_take]; rfl)) ?_; (with_reducible refine (logs_Root.calls k 99 t114 _ A5.out).mono ?_); rintro e w' ⟨rfl, ⟨nd, rfl⟩⟩; refine ⟨_, rfl, ?_⟩))
                go_ret
                exact ⟨by first | rfl | (simp [errW_none, errW_some] <;> rfl) | (simp [*, errW_none, errW_some] <;> rfl), by repeat (first | (with_reducible first | exact HB.out | apply below_alloc | apply pw_below_drewN | apply below_drew1) | exact HB.out)⟩
            · rw [if_neg c11] at H
              have c11b0 : (t109 == 0) = false := beq_eq_false_iff_ne.mpr c11
              have c11b1 : (t109 != 0) = true := bne_iff_ne.mpr c11
              obtain rfl := Option.some.inj H
              go_enter Try.func21, Try.ntmps21
              go_wp2_with (first | ((with_reducible refine gate_callee (f := 22) rfl ?_); refine goesL_ (some 10) rfl rfl Try.func22 (by kernel_rfl) rfl #[.int .u64 1] rfl (by (try simp only [List.map_toArray, List.map_cons, List.map_nil]); first | done | rfl | (simp only [List.length_drop, List.length_take]; rfl)) ?_; (with_reducible refine (logs_Log.calls k 1 t106 t107 _ A1.out).mono ?_); rintro e w19 ⟨rfl, hb⟩; refine ⟨_, rfl, ?_⟩; have n0_ := Aside0.mk (below_step (by repeat (first | (with_reducible first | exact HB.out | apply below_alloc | apply pw_below_drewN | apply below_drew1) | exact HB.out)) hb); clear HB; have HB := n0_; clear n0_; (try clear hb); (try clear hb2); (try clear hk); (try clear hi)) | ((with_reducible refine gate_callee (f := 22) rfl ?_); refine goesL_ (some 14) rfl rfl Try.func22 (by kernel_rfl) rfl #[.int .u64 2] rfl (by (try simp only [List.map_toArray, List.map_cons, List.map_nil]); first | done | rfl | (simp only [List.length_drop, List.length_take]; rfl)) ?_; (with_reducible refine (logs_Log.calls k 2 t108 t109 _ A2.out).mono ?_); rintro e w20 ⟨rfl, hb⟩; refine ⟨_, rfl, ?_⟩; have n0_ := Aside0.mk (below_step (by repeat (first | (with_reducible first | exact HB.out | apply below_alloc | apply pw_below_drewN | apply below_drew1) | exact HB.out)) hb); clear HB; have HB := n0_; clear n0_; (try clear hb); (try clear hb2); (try clear hk); (try clear hi)) | ((with_reducible refine gate_callee (f := 28) rfl ?_); refine goesL_ (some 18) rfl rfl Try.func28 (by kernel_rfl) rfl #[.int .i32 256] rfl (by (try simp only [List.map_toArray, List.map_cons, List.map_nil]); first | done | rfl | (simp only [List.length_drop, List.length_take]; rfl)) ?_; (with_reducible refine (logs_Exp.calls k 256 t110 t111 _ A3.out).mono ?_); rintro e w' ⟨rfl, ⟨nd, rfl⟩⟩; refine ⟨_, rfl, ?_⟩) | ((with_reducible refine gate_callee (f := 22) rfl ?_); refine goesL_ (some 22) rfl rfl Try.func22 (by kernel_rfl) rfl #[.int .u64 0] rfl (by (try simp only [List.map_toArray, List.map_cons, List.map_nil]); first | done | rfl | (simp only [List.length_drop, List.length_take]; rfl)) ?_; (with_reducible refine (logs_Log.calls k 0 t112 t113 _ A4.out).mono ?_); rintro e w21 ⟨rfl, hb⟩; refine ⟨_, rfl, ?_⟩; have n0_ := Aside0.mk (below_step (by repeat (first | (with_reducible first | exact HB.out | apply below_alloc | apply pw_below_drewN | apply below_drew1) | exact HB.out)) hb); clear HB; have HB := n0_; clear n0_; (try clear hb); (try clear hb2); (try clear hk); (try clear hi)) | ((with_reducible refine gate_callee (f := 24) rfl ?_); refine goesL_ (some 25) rfl rfl Try.func24 (by kernel_rfl) rfl #[.int .u64 99] rfl (by (try simp only [List.map_toArray, List.map_cons, List.map_nil]); first | done | rfl | (simp only [List.length_drop, List.length_take]; rfl)) ?_; (with_reducible refine (logs_Root.calls k 99 t114 _ A5.out).mono ?_); rintro e w' ⟨rfl, ⟨nd, rfl⟩⟩; refine ⟨_, rfl, ?_⟩))
              go_ret
              exact ⟨by first | rfl | (simp [errW_none, errW_some] <;> rfl) | (simp [*, errW_none, errW_some] <;> rfl), by repeat (first | (with_reducible first | exact HB.out | apply below_alloc | apply pw_below_drewN | apply below_drew1) | exact HB.out)⟩
          · rw [if_neg c10] at H
            have c10b0 : (t107 == 0) = false := beq_eq_false_iff_ne.mpr c10
            have c10b1 : (t107 != 0) = true := bne_iff_ne.mpr c10
            obtain rfl := Option.some.inj H
            go_enter Try.func21, Try.ntmps21
            go_wp2_with (first | ((with_reducible refine gate_callee (f := 22) rfl ?_); refine goesL_ (some 10) rfl rfl Try.func22 (by kernel_rfl) rfl #[.int .u64 1] rfl (by (try simp only [List.map_toArray, List.map_cons, List.map_nil]); first | done | rfl | (simp only [List.length_drop, List.length_take]; rfl)) ?_; (with_reducible refine (logs_Log.calls k 1 t106 t107 _ A1.out).mono ?_); rintro e w22 ⟨rfl, hb⟩; refine ⟨_, rfl, ?_⟩; have n0_ := Aside0.mk (below_step (by repeat (first | (with_reducible first | exact HB.out | apply below_alloc | apply pw_below_drewN | apply below_drew1) | exact HB.out)) hb); clear HB; have HB := n0_; clear n0_; (try clear hb); (try clear hb2); (try clear hk); (try clear hi)) | ((with_reducible refine gate_callee (f := 22) rfl ?_); refine goesL_ (some 14) rfl rfl Try.func22 (by kernel_rfl) rfl #[.int .u64 2] rfl (by (try simp only [List.map_toArray, List.map_cons, List.map_nil]); first | done | rfl | (simp only [List.length_drop, List.length_take]; rfl)) ?_; (with_reducible refine (logs_Log.calls k 2 t108 t109 _ A2.out).mono ?_); rintro e w23 ⟨rfl, hb⟩; refine ⟨_, rfl, ?_⟩; have n0_ := Aside0.mk (below_step (by repeat (first | (with_reducible first | exact HB.out | apply below_alloc | apply pw_below_drewN | apply below_drew1) | exact HB.out)) hb); clear HB; have HB := n0_; clear n0_; (try clear hb); (try clear hb2); (try clear hk); (try clear hi)) | ((with_reducible refine gate_callee (f := 28) rfl ?_); refine goesL_ (some 18) rfl rfl Try.func28 (by kernel_rfl) rfl #[.int .i32 256] rfl (by (try simp only [List.map_toArray, List.map_cons, List.map_nil]); first | done | rfl | (simp only [List.length_drop, List.length_take]; rfl)) ?_; (with_reducible refine (logs_Exp.calls k 256 t110 t111 _ A3.out).mono ?_); rintro e w' ⟨rfl, ⟨nd, rfl⟩⟩; refine ⟨_, rfl, ?_⟩) | ((with_reducible refine gate_callee (f := 22) rfl ?_); refine goesL_ (some 22) rfl rfl Try.func22 (by kernel_rfl) rfl #[.int .u64 0] rfl (by (try simp only [List.map_toArray, List.map_cons, List.map_nil]); first | done | rfl | (simp only [List.length_drop, List.length_take]; rfl)) ?_; (with_reducible refine (logs_Log.calls k 0 t112 t113 _ A4.out).mono ?_); rintro e w24 ⟨rfl, hb⟩; refine ⟨_, rfl, ?_⟩; have n0_ := Aside0.mk (below_step (by repeat (first | (with_reducible first | exact HB.out | apply below_alloc | apply pw_below_drewN | apply below_drew1) | exact HB.out)) hb); clear HB; have HB := n0_; clear n0_; (try clear hb); (try clear hb2); (try clear hk); (try clear hi)) | ((with_reducible refine gate_callee (f := 24) rfl ?_); refine goesL_ (some 25) rfl rfl Try.func24 (by kernel_rfl) rfl #[.int .u64 99] rfl (by (try simp only [List.map_toArray, List.map_cons, List.map_nil]); first | done | rfl | (simp only [List.length_drop, List.length_take]; rfl)) ?_; (with_reducible refine (logs_Root.calls k 99 t114 _ A5.out).mono ?_); rintro e w' ⟨rfl, ⟨nd, rfl⟩⟩; refine ⟨_, rfl, ?_⟩))
            go_ret
            exact ⟨by first | rfl | (simp [errW_none, errW_some] <;> rfl) | (simp [*, errW_none, errW_some] <;> rfl), by repeat (first | (with_reducible first | exact HB.out | apply below_alloc | apply pw_below_drewN | apply below_drew1) | exact HB.out)⟩
        · rw [if_neg c9] at H
          have c9b0 : (t110 == 131072) = false := beq_eq_false_iff_ne.mpr c9
          have c9b1 : (t110 != 131072) = true := bne_iff_ne.mpr c9
          obtain rfl := Option.some.inj H
          go_enter Try.func21, Try.ntmps21
          go_wp2_with (first | ((with_reducible refine gate_callee (f := 22) rfl ?_); refine goesL_ (some 10) rfl rfl Try.func22 (by kernel_rfl) rfl #[.int .u64 1] rfl (by (try simp only [List.map_toArray, List.map_cons, List.map_nil]); first | done | rfl | (simp only [List.length_drop, List.length_take]; rfl)) ?_; (with_reducible refine (logs_Log.calls k 1 t106 t107 _ A1.out).mono ?_); rintro e w25 ⟨rfl, hb⟩; refine ⟨_, rfl, ?_⟩; have n0_ := Aside0.mk (below_step (by repeat (first | (with_reducible first | exact HB.out | apply below_alloc | apply pw_below_drewN | apply below_drew1) | exact HB.out)) hb); clear HB; have HB := n0_; clear n0_; (try clear hb); (try clear hb2); (try clear hk); (try clear hi)) | ((with_reducible refine gate_callee (f := 22) rfl ?_); refine goesL_ (some 14) rfl rfl Try.func22 (by kernel_rfl) rfl #[.int .u64 2] rfl (by (try simp only [List.map_toArray, List.map_cons, List.map_nil]); first | done | rfl | (simp only [List.length_drop, List.length_take]; rfl)) ?_; (with_reducible refine (logs_Log.calls k 2 t108 t109 _ A2.out).mono ?_); rintro e w26 ⟨rfl, hb⟩; refine ⟨_, rfl, ?_⟩; have n0_ := Aside0.mk (below_step (by repeat (first | (with_reducible first | exact HB.out | apply below_alloc | apply pw_below_drewN | apply below_drew1) | exact HB.out)) hb); clear HB; have HB := n0_; clear n0_; (try clear hb); (try clear hb2); (try clear hk); (try clear hi)) | ((with_reducible refine gate_callee (f := 28) rfl ?_); refine goesL_ (some 18) rfl rfl Try.func28 (by kernel_rfl) rfl #[.int .i32 256] rfl (by (try simp only [List.map_toArray, List.map_cons, List.map_nil]); first | done | rfl | (simp only [List.length_drop, List.length_take]; rfl)) ?_; (with_reducible refine (logs_Exp.calls k 256 t110 t111 _ A3.out).mono ?_); rintro e w' ⟨rfl, ⟨nd, rfl⟩⟩; refine ⟨_, rfl, ?_⟩) | ((with_reducible refine gate_callee (f := 22) rfl ?_); refine goesL_ (some 22) rfl rfl Try.func22 (by kernel_rfl) rfl #[.int .u64 0] rfl (by (try simp only [List.map_toArray, List.map_cons, List.map_nil]); first | done | rfl | (simp only [List.length_drop, List.length_take]; rfl)) ?_; (with_reducible refine (logs_Log.calls k 0 t112 t113 _ A4.out).mono ?_); rintro e w27 ⟨rfl, hb⟩; refine ⟨_, rfl, ?_⟩; have n0_ := Aside0.mk (below_step (by repeat (first | (with_reducible first | exact HB.out | apply below_alloc | apply pw_below_drewN | apply below_drew1) | exact HB.out)) hb); clear HB; have HB := n0_; clear n0_; (try clear hb); (try clear hb2); (try clear hk); (try clear hi)) | ((with_reducible refine gate_callee (f := 24) rfl ?_); refine goesL_ (some 25) rfl rfl Try.func24 (by kernel_rfl) rfl #[.int .u64 99] rfl (by (try simp only [List.map_toArray, List.map_cons, List.map_nil]); first | done | rfl | (simp only [List.length_drop, List.length_take]; rfl)) ?_; (with_reducible refine (logs_Root.calls k 99 t114 _ A5.out).mono ?_); rintro e w' ⟨rfl, ⟨nd, rfl⟩⟩; refine ⟨_, rfl, ?_⟩))
          go_ret
          exact ⟨by first | rfl | (simp [errW_none, errW_some] <;> rfl) | (simp [*, errW_none, errW_some] <;> rfl), by repeat (first | (with_reducible first | exact HB.out | apply below_alloc | apply pw_below_drewN | apply below_drew1) | exact HB.out)⟩
      · rw [if_neg c8] at H
        have c8b0 : (t108 == 256) = false := beq_eq_false_iff_ne.mpr c8
        have c8b1 : (t108 != 256) = true := bne_iff_ne.mpr c8
        obtain rfl := Option.some.inj H
        go_enter Try.func21, Try.ntmps21
        go_wp2_with (first | ((with_reducible refine gate_callee (f := 22) rfl ?_); refine goesL_ (some 10) rfl rfl Try.func22 (by kernel_rfl) rfl #[.int .u64 1] rfl (by (try simp only [List.map_toArray, List.map_cons, List.map_nil]); first | done | rfl | (simp only [List.length_drop, List.length_take]; rfl)) ?_; (with_reducible refine (logs_Log.calls k 1 t106 t107 _ A1.out).mono ?_); rintro e w28 ⟨rfl, hb⟩; refine ⟨_, rfl, ?_⟩; have n0_ := Aside0.mk (below_step (by repeat (first | (with_reducible first | exact HB.out | apply below_alloc | apply pw_below_drewN | apply below_drew1) | exact HB.out)) hb); clear HB; have HB := n0_; clear n0_; (try clear hb); (try clear hb2); (try clear hk); (try clear hi)) | ((with_reducible refine gate_callee (f := 22) rfl ?_); refine goesL_ (some 14) rfl rfl Try.func22 (by kernel_rfl) rfl #[.int .u64 2] rfl (by (try simp only [List.map_toArray, List.map_cons, List.map_nil]); first | done | rfl | (simp only [List.length_drop, List.length_take]; rfl)) ?_; (with_reducible refine (logs_Log.calls k 2 t108 t109 _ A2.out).mono ?_); rintro e w29 ⟨rfl, hb⟩; refine ⟨_, rfl, ?_⟩; have n0_ := Aside0.mk (below_step (by repeat (first | (with_reducible first | exact HB.out | apply below_alloc | apply pw_below_drewN | apply below_drew1) | exact HB.out)) hb); clear HB; have HB := n0_; clear n0_; (try clear hb); (try clear hb2); (try clear hk); (try clear hi)) | ((with_reducible refine gate_callee (f := 28) rfl ?_); refine goesL_ (some 18) rfl rfl Try.func28 (by kernel_rfl) rfl #[.int .i32 256] rfl (by (try simp only [List.map_toArray, List.map_cons, List.map_nil]); first | done | rfl | (simp only [List.length_drop, List.length_take]; rfl)) ?_; (with_reducible refine (logs_Exp.calls k 256 t110 t111 _ A3.out).mono ?_); rintro e w' ⟨rfl, ⟨nd, rfl⟩⟩; refine ⟨_, rfl, ?_⟩) | ((with_reducible refine gate_callee (f := 22) rfl ?_); refine goesL_ (some 22) rfl rfl Try.func22 (by kernel_rfl) rfl #[.int .u64 0] rfl (by (try simp only [List.map_toArray, List.map_cons, List.map_nil]); first | done | rfl | (simp only [List.length_drop, List.length_take]; rfl)) ?_; (with_reducible refine (logs_Log.calls k 0 t112 t113 _ A4.out).mono ?_); rintro e w30 ⟨rfl, hb⟩; refine ⟨_, rfl, ?_⟩; have n0_ := Aside0.mk (below_step (by repeat (first | (with_reducible first | exact HB.out | apply below_alloc | apply pw_below_drewN | apply below_drew1) | exact HB.out)) hb); clear HB; have HB := n0_; clear n0_; (try clear hb); (try clear hb2); (try clear hk); (try clear hi)) | ((with_reducible refine gate_callee (f := 24) rfl ?_); refine goesL_ (some 25) rfl rfl Try.func24 (by kernel_rfl) rfl #[.int .u64 99] rfl (by (try simp only [List.map_toArray, List.map_cons, List.map_nil]); first | done | rfl | (simp only [List.length_drop, List.length_take]; rfl)) ?_; (with_reducible refine (logs_Root.calls k 99 t114 _ A5.out).mono ?_); rintro e w' ⟨rfl, ⟨nd, rfl⟩⟩; refine ⟨_, rfl, ?_⟩))
        go_ret
        exact ⟨by first | rfl | (simp [errW_none, errW_some] <;> rfl) | (simp [*, errW_none, errW_some] <;> rfl), by repeat (first | (with_reducible first | exact HB.out | apply below_alloc | apply pw_below_drewN | apply below_drew1) | exact HB.out)⟩
    · rw [if_neg c7] at H
      have c7b0 : (t106 == 0) = false := beq_eq_false_iff_ne.mpr c7
      have c7b1 : (t106 != 0) = true := bne_iff_ne.mpr c7
      obtain rfl := Option.some.inj H
      go_enter Try.func21, Try.ntmps21
      go_wp2_with (first | ((with_reducible refine gate_callee (f := 22) rfl ?_); refine goesL_ (some 10) rfl rfl Try.func22 (by kernel_rfl) rfl #[.int .u64 1] rfl (by (try simp only [List.map_toArray, List.map_cons, List.map_nil]); first | done | rfl | (simp only [List.length_drop, List.length_take]; rfl)) ?_; (with_reducible refine (logs_Log.calls k 1 t106 t107 _ A1.out).mono ?_); rintro e w31 ⟨rfl, hb⟩; refine ⟨_, rfl, ?_⟩; have n0_ := Aside0.mk (below_step (by repeat (first | (with_reducible first | exact HB.out | apply below_alloc | apply pw_below_drewN | apply below_drew1) | exact HB.out)) hb); clear HB; have HB := n0_; clear n0_; (try clear hb); (try clear hb2); (try clear hk); (try clear hi)) | ((with_reducible refine gate_callee (f := 22) rfl ?_); refine goesL_ (some 14) rfl rfl Try.func22 (by kernel_rfl) rfl #[.int .u64 2] rfl (by (try simp only [List.map_toArray, List.map_cons, List.map_nil]); first | done | rfl | (simp only [List.length_drop, List.length_take]; rfl)) ?_; (with_reducible refine (logs_Log.calls k 2 t108 t109 _ A2.out).mono ?_); rintro e w32 ⟨rfl, hb⟩; refine ⟨_, rfl, ?_⟩; have n0_ := Aside0.mk (below_step (by repeat (first | (with_reducible first | exact HB.out | apply below_alloc | apply pw_below_drewN | apply below_drew1) | exact HB.out)) hb); clear HB; have HB := n0_; clear n0_; (try clear hb); (try clear hb2); (try clear hk); (try clear hi)) | ((with_reducible refine gate_callee (f := 28) rfl ?_); refine goesL_ (some 18) rfl rfl Try.func28 (by kernel_rfl) rfl #[.int .i32 256] rfl (by (try simp only [List.map_toArray, List.map_cons, List.map_nil]); first | done | rfl | (simp only [List.length_drop, List.length_take]; rfl)) ?_; (with_reducible refine (logs_Exp.calls k 256 t110 t111 _ A3.out).mono ?_); rintro e w' ⟨rfl, ⟨nd, rfl⟩⟩; refine ⟨_, rfl, ?_⟩) | ((with_reducible refine gate_callee (f := 22) rfl ?_); refine goesL_ (some 22) rfl rfl Try.func22 (by kernel_rfl) rfl #[.int .u64 0] rfl (by (try simp only [List.map_toArray, List.map_cons, List.map_nil]); first | done | rfl | (simp only [List.length_drop, List.length_take]; rfl)) ?_; (with_reducible refine (logs_Log.calls k 0 t112 t113 _ A4.out).mono ?_); rintro e w33 ⟨rfl, hb⟩; refine ⟨_, rfl, ?_⟩; have n0_ := Aside0.mk (below_step (by repeat (first | (with_reducible first | exact HB.out | apply below_alloc | apply pw_below_drewN | apply below_drew1) | exact HB.out)) hb); clear HB; have HB := n0_; clear n0_; (try clear hb); (try clear hb2); (try clear hk); (try clear hi)) | ((with_reducible refine gate_callee (f := 24) rfl ?_); refine goesL_ (some 25) rfl rfl Try.func24 (by kernel_rfl) rfl #[.int .u64 99] rfl (by (try simp only [List.map_toArray, List.map_cons, List.map_nil]); first | done | rfl | (simp only [List.length_drop, List.length_take]; rfl)) ?_; (with_reducible refine (logs_Root.calls k 99 t114 _ A5.out).mono ?_); rintro e w' ⟨rfl, ⟨nd, rfl⟩⟩; refine ⟨_, rfl, ?_⟩))
      go_ret
      exact ⟨by first | rfl | (simp [errW_none, errW_some] <;> rfl) | (simp [*, errW_none, errW_some] <;> rfl), by repeat (first | (with_reducible first | exact HB.out | apply below_alloc | apply pw_below_drewN | apply below_drew1) | exact HB.out)⟩
  · rw [if_neg c6] at H
    have c6b0 : (t114 == 9) = false := beq_eq_false_iff_ne.mpr c6
    have c6b1 : (t114 != 9) = true := bne_iff_ne.mpr c6
    obtain rfl := Option.some.inj H
    go_enter Try.func21, Try.ntmps21
    go_wp2_with (first | ((with_reducible refine gate_callee (f := 22) rfl ?_); refine goesL_ (some 10) rfl rfl Try.func22 (by kernel_rfl) rfl #[.int .u64 1] rfl (by (try simp only [List.map_toArray, List.map_cons, List.map_nil]); first | done | rfl | (simp only [List.length_drop, List.length_take]; rfl)) ?_; (with_reducible refine (logs_Log.calls k 1 t106 t107 _ A1.out).mono ?_); rintro e w34 ⟨rfl, hb⟩; refine ⟨_, rfl, ?_⟩; have n0_ := Aside0.mk (below_step (by repeat (first | (with_reducible first | exact HB.out | apply below_alloc | apply pw_below_drewN | apply below_drew1) | exact HB.out)) hb); clear HB; have HB := n0_; clear n0_; (try clear hb); (try clear hb2); (try clear hk); (try clear hi)) | ((with_reducible refine gate_callee (f := 22) rfl ?_); refine goesL_ (some 14) rfl rfl Try.func22 (by kernel_rfl) rfl #[.int .u64 2] rfl (by (try simp only [List.map_toArray, List.map_cons, List.map_nil]); first | done | rfl | (simp only [List.length_drop, List.length_take]; rfl)) ?_; (with_reducible refine (logs_Log.calls k 2 t108 t109 _ A2.out).mono ?_); rintro e w35 ⟨rfl, hb⟩; refine ⟨_, rfl, ?_⟩; have n0_ := Aside0.mk (below_step (by repeat (first | (with_reducible first | exact HB.out | apply below_alloc | apply pw_below_drewN | apply below_drew1) | exact HB.out)) hb); clear HB; have HB := n0_; clear n0_; (try clear hb); (try clear hb2); (try clear hk); (try clear hi)) | ((with_reducible refine gate_callee (f := 28) rfl ?_); refine goesL_ (some 18) rfl rfl Try.func28 (by kernel_rfl) rfl #[.int .i32 256] rfl (by (try simp only [List.map_toArray, List.map_cons, List.map_nil]); first | done | rfl | (simp only [List.length_drop, List.length_take]; rfl)) ?_; (with_reducible refine (logs_Exp.calls k 256 t110 t111 _ A3.out).mono ?_); rintro e w' ⟨rfl, ⟨nd, rfl⟩⟩; refine ⟨_, rfl, ?_⟩) | ((with_reducible refine gate_callee (f := 22) rfl ?_); refine goesL_ (some 22) rfl rfl Try.func22 (by kernel_rfl) rfl #[.int .u64 0] rfl (by (try simp only [List.map_toArray, List.map_cons, List.map_nil]); first | done | rfl | (simp only [List.length_drop, List.length_take]; rfl)) ?_; (with_reducible refine (logs_Log.calls k 0 t112 t113 _ A4.out).mono ?_); rintro e w36 ⟨rfl, hb⟩; refine ⟨_, rfl, ?_⟩; have n0_ := Aside0.mk (below_step (by repeat (first | (with_reducible first | exact HB.out | apply below_alloc | apply pw_below_drewN | apply below_drew1) | exact HB.out)) hb); clear HB; have HB := n0_; clear n0_; (try clear hb); (try clear hb2); (try clear hk); (try clear hi)) | ((with_reducible refine gate_callee (f := 24) rfl ?_); refine goesL_ (some 25) rfl rfl Try.func24 (by kernel_rfl) rfl #[.int .u64 99] rfl (by (try simp only [List.map_toArray, List.map_cons, List.map_nil]); first | done | rfl | (simp only [List.length_drop, List.length_take]; rfl)) ?_; (with_reducible refine (logs_Root.calls k 99 t114 _ A5.out).mono ?_); rintro e w' ⟨rfl, ⟨nd, rfl⟩⟩; refine ⟨_, rfl, ?_⟩))
    go_ret
    exact ⟨by first | rfl | (simp [errW_none, errW_some] <;> rfl) | (simp [*, errW_none, errW_some] <;> rfl), by repeat (first | (with_reducible first | exact HB.out | apply below_alloc | apply pw_below_drewN | apply below_drew1) | exact HB.out)⟩

/-! ### psalteryref02_Bits: function 27 -/
def psalteryref02_Bits.l0 : Nat → Int → Int → Option (Int)
  | 0, _, _ => none
  | k + 1, x0, x3 => if x0 > 0 then (psalteryref02_Bits.l0 k (IntKind.u64.wrap (Int.tdiv x0 2)) (wrap64 (x3 + 1))) else (some x3)
def psalteryref02_Bits.f (k : Nat) (a0 : Int) : Option (Int) := psalteryref02_Bits.l0 k a0 0
theorem psalteryref02_Bits.mono_l : ∀ k, (∀ y0 y1, LeO (psalteryref02_Bits.l0 k y0 y1) (psalteryref02_Bits.l0 (k + 1) y0 y1))
  | 0 => fun _ _ r h => by simp [psalteryref02_Bits.l0] at h
  | k + 1 => by
    have ih0 := psalteryref02_Bits.mono_l k
    · intro y0 y1
      unfold psalteryref02_Bits.l0
      repeat' first
      | (with_reducible exact ih0 _ _)
      | (with_reducible exact LeO.refl _)
      | (with_reducible exact LeO.none _)
      | (with_reducible refine LeO.ite ?_ ?_)
      | (with_reducible refine LeO.bind ?_ (fun _ => ?_))
      | exact ih0 _ _
      | exact LeO.none _
      | refine LeO.ite ?_ ?_
      | refine LeO.bind ?_ (fun _ => ?_)
theorem psalteryref02_Bits.mono : ∀ a0 k, LeO (psalteryref02_Bits.f k a0) (psalteryref02_Bits.f (k + 1) a0) := by
  intro a0 k
  have ih0 := psalteryref02_Bits.mono_l k
  unfold psalteryref02_Bits.f
  repeat' first
      | (with_reducible exact ih0 _ _)
      | (with_reducible exact LeO.refl _)
      | (with_reducible exact LeO.none _)
      | (with_reducible refine LeO.ite ?_ ?_)
      | (with_reducible refine LeO.bind ?_ (fun _ => ?_))
      | exact ih0 _ _
      | exact LeO.none _
      | refine LeO.ite ?_ ?_
      | refine LeO.bind ?_ (fun _ => ?_)
set_option maxHeartbeats 8000000 in
set_option maxRecDepth 100000 in
theorem psalteryref02_Bits.calls (k : Nat) (a0 : Int) (r : Int) (w : World) (h : psalteryref02_Bits.f k a0 = some r) :
    Calls Try.prog 27 #[.int .u64 a0] w fun e w' => e = .returned (.int .i64 r) ∧ Drawn0 w w' := by
  have H : (psalteryref02_Bits.l0 k a0 0) = some r := h
  clear h
  have H' := Aside0.mk H
  clear H
  go_enter Try.func27, Try.ntmps27
  go_wp2
  go_loopg [0, 3] k (fun kq v0 v3 w' => ∃ (x0_1 : Int) (x3_1 : Int), v0 = .int .u64 x0_1 ∧ v3 = .int .i64 x3_1 ∧ Aside0 (psalteryref02_Bits.l0 kq x0_1 x3_1 = some r) ∧ Aside0 (kq ≤ k) ∧ Drawn0 w w')
  case atStart => exact ⟨(a0), (0), (by first | rfl | (simp; done) | (simp [*]; done)), (by first | rfl | (simp; done) | (simp [*]; done)), H', ⟨Nat.le_refl _⟩, by repeat (first | exact Drawn0.refl _ | apply Drawn0.step)⟩
  case round =>
    clear H'
    obtain ⟨x0_1, x3_1, rfl, rfl, HA, HK1, ⟨m1, rfl⟩⟩ := hrel
    cases gk with
    | zero => exact absurd HA.out (by simp [psalteryref02_Bits.l0])
    | succ k1 =>
      have H := HA.out
      clear HA
      simp only [psalteryref02_Bits.l0] at H
      by_cases c2 : x0_1 > 0
      · rw [if_pos c2] at H
        have c2b0 : decide (0 < x0_1) = true := decide_eq_true c2
        clear c2
        have H' := Aside0.mk H
        clear H
        go_wp2
        go_roundg k1
        case measure => have := HK1.out; omega
        case rel => exact ⟨(IntKind.u64.wrap (Int.tdiv x0_1 2)), (wrap64 (x3_1 + 1)), (by first | rfl | (simp; done) | (simp [*]; done)), (by first | rfl | (simp; done) | (simp [*]; done)), H', ⟨by have := HK1.out; omega⟩, by repeat (first | exact Drawn0.refl _ | apply Drawn0.step)⟩
      · rw [if_neg c2] at H
        have c2b0 : decide (0 < x0_1) = false := decide_eq_false c2
        clear c2
        obtain rfl := Option.some.inj H
        go_wp2
        go_ret
        exact ⟨by first | rfl | (simp; done) | (simp [*]; done), by repeat (first | exact Drawn0.refl _ | apply Drawn0.step)⟩

/-! ### psalteryref02_Log: function 23 -/
mutual
def psalteryref02_Log.l0 : Nat → Int → Int → Option (Int × Int)
  | 0, _, _ => none
  | k + 1, x4, x5 => if x5 < 1073741824 then (psalteryref02_Log.l0 k x4 (IntKind.u64.wrap (x5 * 2))) else (psalteryref02_Log.l1 k x4 x5)
def psalteryref02_Log.l1 : Nat → Int → Int → Option (Int × Int)
  | 0, _, _ => none
  | k + 1, x4, x5 => if x5 ≥ 2147483648 then (psalteryref02_Log.l1 k x4 (IntKind.u64.wrap (Int.tdiv x5 2))) else (psalteryref02_Log.l2 k x4 x5 0 0)
def psalteryref02_Log.l2 : Nat → Int → Int → Int → Int → Option (Int × Int)
  | 0, _, _, _, _ => none
  | k + 1, x4, x5, x6, x7 => if x7 < 8 then (if (IntKind.u64.wrap (Int.tdiv (IntKind.u64.wrap (x5 * x5)) 1073741824)) ≥ 2147483648 then (psalteryref02_Log.l2 k x4 (IntKind.u64.wrap (Int.tdiv (IntKind.u64.wrap (Int.tdiv (IntKind.u64.wrap (x5 * x5)) 1073741824)) 2)) (wrap64 ((wrap64 (x6 * 2)) + 1)) (wrap64 (x7 + 1))) else (psalteryref02_Log.l2 k x4 (IntKind.u64.wrap (Int.tdiv (IntKind.u64.wrap (x5 * x5)) 1073741824)) (wrap64 (x6 * 2)) (wrap64 (x7 + 1)))) else (some (wrap32 (wrap64 ((wrap64 (256 * x4)) + x6)), 0))
end
def psalteryref02_Log.f (k : Nat) (a0 : Int) : Option (Int × Int) := if a0 = 0 then (some (0, 1)) else ((psalteryref02_Bits.f k a0).bind fun t115 => (psalteryref02_Log.l0 k (wrap64 (t115 - 1)) a0))
theorem psalteryref02_Log.mono_l : ∀ k, (∀ y0 y1, LeO (psalteryref02_Log.l0 k y0 y1) (psalteryref02_Log.l0 (k + 1) y0 y1)) ∧ (∀ y0 y1, LeO (psalteryref02_Log.l1 k y0 y1) (psalteryref02_Log.l1 (k + 1) y0 y1)) ∧ (∀ y0 y1 y2 y3, LeO (psalteryref02_Log.l2 k y0 y1 y2 y3) (psalteryref02_Log.l2 (k + 1) y0 y1 y2 y3))
  | 0 => ⟨fun _ _ r h => by simp [psalteryref02_Log.l0] at h, fun _ _ r h => by simp [psalteryref02_Log.l1] at h, fun _ _ _ _ r h => by simp [psalteryref02_Log.l2] at h⟩
  | k + 1 => by
    obtain ⟨ih0, ih1, ih2⟩ := psalteryref02_Log.mono_l k
    refine ⟨?_, ?_, ?_⟩
    · intro y0 y1
      unfold psalteryref02_Log.l0
      repeat' first
      | (with_reducible exact ih0 _ _)
      | (with_reducible exact ih1 _ _)
      | (with_reducible exact ih2 _ _ _ _)
      | (with_reducible exact psalteryref02_Bits.mono _ _)
      | (with_reducible exact LeO.refl _)
      | (with_reducible exact LeO.none _)
      | (with_reducible refine LeO.ite ?_ ?_)
      | (with_reducible refine LeO.bind ?_ (fun _ => ?_))
      | exact ih0 _ _
      | exact ih1 _ _
      | exact ih2 _ _ _ _
      | exact psalteryref02_Bits.mono _ _
      | exact LeO.none _
      | refine LeO.ite ?_ ?_
      | refine LeO.bind ?_ (fun _ => ?_)
    · intro y0 y1
      unfold psalteryref02_Log.l1
      repeat' first
      | (with_reducible exact ih0 _ _)
      | (with_reducible exact ih1 _ _)
      | (with_reducible exact ih2 _ _ _ _)
      | (with_reducible exact psalteryref02_Bits.mono _ _)
      | (with_reducible exact LeO.refl _)
      | (with_reducible exact LeO.none _)
      | (with_reducible refine LeO.ite ?_ ?_)
      | (with_reducible refine LeO.bind ?_ (fun _ => ?_))
      | exact ih0 _ _
      | exact ih1 _ _
      | exact ih2 _ _ _ _
      | exact psalteryref02_Bits.mono _ _
      | exact LeO.none _
      | refine LeO.ite ?_ ?_
      | refine LeO.bind ?_ (fun _ => ?_)
    · intro y0 y1 y2 y3
      unfold psalteryref02_Log.l2
      repeat' first
      | (with_reducible exact ih0 _ _)
      | (with_reducible exact ih1 _ _)
      | (with_reducible exact ih2 _ _ _ _)
      | (with_reducible exact psalteryref02_Bits.mono _ _)
      | (with_reducible exact LeO.refl _)
      | (with_reducible exact LeO.none _)
      | (with_reducible refine LeO.ite ?_ ?_)
      | (with_reducible refine LeO.bind ?_ (fun _ => ?_))
      | exact ih0 _ _
      | exact ih1 _ _
      | exact ih2 _ _ _ _
      | exact psalteryref02_Bits.mono _ _
      | exact LeO.none _
      | refine LeO.ite ?_ ?_
      | refine LeO.bind ?_ (fun _ => ?_)
theorem psalteryref02_Log.mono : ∀ a0 k, LeO (psalteryref02_Log.f k a0) (psalteryref02_Log.f (k + 1) a0) := by
  intro a0 k
  obtain ⟨ih0, ih1, ih2⟩ := psalteryref02_Log.mono_l k
  unfold psalteryref02_Log.f
  repeat' first
      | (with_reducible exact ih0 _ _)
      | (with_reducible exact ih1 _ _)
      | (with_reducible exact ih2 _ _ _ _)
      | (with_reducible exact psalteryref02_Bits.mono _ _)
      | (with_reducible exact LeO.refl _)
      | (with_reducible exact LeO.none _)
      | (with_reducible refine LeO.ite ?_ ?_)
      | (with_reducible refine LeO.bind ?_ (fun _ => ?_))
      | exact ih0 _ _
      | exact ih1 _ _
      | exact ih2 _ _ _ _
      | exact psalteryref02_Bits.mono _ _
      | exact LeO.none _
      | refine LeO.ite ?_ ?_
      | refine LeO.bind ?_ (fun _ => ?_)
set_option maxHeartbeats 8000000 in
set_option maxRecDepth 100000 in
theorem psalteryref02_Log.calls (k : Nat) (a0 : Int) (r1 : Int) (r2 : Int) (w : World) (h : psalteryref02_Log.f k a0 = some (r1, r2)) :
    Calls Try.prog 23 #[.int .u64 a0] w fun e w' => e = .returned (.tuple #[.int .i32 r1, .int .i64 r2]) ∧ Drawn0 w w' := by
  have H : (if a0 = 0 then (some (0, 1)) else ((psalteryref02_Bits.f k a0).bind fun t115 => (psalteryref02_Log.l0 k (wrap64 (t115 - 1)) a0))) = some (r1, r2) := h
  clear h
  by_cases c2 : a0 = 0
  · rw [if_pos c2] at H
    have c2b0 : (a0 == 0) = true := beq_iff_eq.mpr c2
    have c2b1 : (a0 != 0) = false := bne_eq_false_iff_eq.mpr c2
    clear c2
    simp only [Option.some.injEq, Prod.mk.injEq] at H
    obtain ⟨rfl, rfl⟩ := H
    go_enter Try.func23, Try.ntmps23
    go_wp2
    go_ret2
    exact ⟨by first | rfl | (simp; done) | (simp [*]; done), by repeat (first | exact Drawn0.refl _ | apply Drawn0.step)⟩
  · rw [if_neg c2] at H
    have c2b0 : (a0 == 0) = false := beq_eq_false_iff_ne.mpr c2
    have c2b1 : (a0 != 0) = true := bne_iff_ne.mpr c2
    replace H := Option.bind_eq_some_iff.mp H
    obtain ⟨t115, A30, H⟩ := H
    replace H : (psalteryref02_Log.l0 k (wrap64 (t115 - 1)) a0) = some (r1, r2) := H
    have A3 := Aside0.mk A30
    clear A30
    have H' := Aside0.mk H
    clear H
    go_enter Try.func23, Try.ntmps23
    go_wp2_with (first | ((with_reducible refine gate_callee (f := 27) rfl ?_); refine goesL_ (some 11) rfl rfl Try.func27 (by kernel_rfl) rfl #[.int .u64 a0] rfl (by (try simp only [List.map_toArray, List.map_cons, List.map_nil]); first | done | rfl | (simp only [List.length_drop, List.length_take]; rfl)) ?_; (with_reducible refine (psalteryref02_Bits.calls k a0 t115 _ A3.out).mono ?_); rintro e w' ⟨rfl, ⟨nd, rfl⟩⟩; refine ⟨_, rfl, ?_⟩))
    go_loopg [5] k (fun kq v5 w' => ∃ (x5_1 : Int), v5 = .int .u64 x5_1 ∧ Aside0 (psalteryref02_Log.l0 kq (wrap64 (t115 - 1)) x5_1 = some (r1, r2)) ∧ Aside0 (kq ≤ k) ∧ Drawn0 w w')
    case atStart => exact ⟨(a0), (by first | rfl | (simp; done) | (simp [*]; done)), H', ⟨Nat.le_refl _⟩, by repeat (first | exact Drawn0.refl _ | apply Drawn0.step)⟩
    case round =>
      clear H'
      try clear c2
      try clear c2b0
      try clear c2b1
      try clear p2
      obtain ⟨x5_1, rfl, HA, HK1, ⟨m1, rfl⟩⟩ := hrel
      cases gk with
      | zero => exact absurd HA.out (by simp [psalteryref02_Log.l0])
      | succ k1 =>
        have H := HA.out
        clear HA
        simp only [psalteryref02_Log.l0] at H
        by_cases c4 : x5_1 < 1073741824
        · rw [if_pos c4] at H
          have c4b0 : decide (x5_1 < 1073741824) = true := decide_eq_true c4
          clear c4
          have H' := Aside0.mk H
          clear H
          go_wp2
          go_roundg k1
          case measure => have := HK1.out; omega
          case rel => exact ⟨(IntKind.u64.wrap (x5_1 * 2)), (by first | rfl | (simp; done) | (simp [*]; done)), H', ⟨by have := HK1.out; omega⟩, by repeat (first | exact Drawn0.refl _ | apply Drawn0.step)⟩
        · rw [if_neg c4] at H
          have c4b0 : decide (x5_1 < 1073741824) = false := decide_eq_false c4
          clear c4
          have H' := Aside0.mk H
          clear H
          go_wp2
          go_loopg [5] k1 (fun kq v5 w' => ∃ (x5_2 : Int), v5 = .int .u64 x5_2 ∧ Aside0 (psalteryref02_Log.l1 kq (wrap64 (t115 - 1)) x5_2 = some (r1, r2)) ∧ Aside0 (kq ≤ k1) ∧ Drawn0 w w')
          case atStart => exact ⟨(x5_1), (by first | rfl | (simp; done) | (simp [*]; done)), H', ⟨Nat.le_refl _⟩, by repeat (first | exact Drawn0.refl _ | apply Drawn0.step)⟩
          case round =>
            clear H'
            try clear c2
            try clear c2b0
            try clear c2b1
            try clear p2
            try clear c4
            try clear c4b0
            try clear p2
            obtain ⟨x5_2, rfl, HA, HK2, ⟨m2, rfl⟩⟩ := hrel
            cases gk with
            | zero => exact absurd HA.out (by simp [psalteryref02_Log.l1])
            | succ k2 =>
              have H := HA.out
              clear HA
              simp only [psalteryref02_Log.l1] at H
              by_cases c5 : x5_2 ≥ 2147483648
              · rw [if_pos c5] at H
                have c5b0 : decide (2147483648 ≤ x5_2) = true := decide_eq_true c5
                clear c5
                have H' := Aside0.mk H
                clear H
                go_wp2
                go_roundg k2
                case measure => have := HK1.out; have := HK2.out; omega
                case rel => exact ⟨(IntKind.u64.wrap (Int.tdiv x5_2 2)), (by first | rfl | (simp; done) | (simp [*]; done)), H', ⟨by have := HK1.out; have := HK2.out; omega⟩, by repeat (first | exact Drawn0.refl _ | apply Drawn0.step)⟩
              · rw [if_neg c5] at H
                have c5b0 : decide (2147483648 ≤ x5_2) = false := decide_eq_false c5
                clear c5
                have H' := Aside0.mk H
                clear H
                go_wp2
                go_loopg [5, 6, 7] k2 (fun kq v5 v6 v7 w' => ∃ (x5_3 : Int) (x6_3 : Int) (x7_3 : Int), v5 = .int .u64 x5_3 ∧ v6 = .int .i64 x6_3 ∧ v7 = .int .i64 x7_3 ∧ Aside0 (psalteryref02_Log.l2 kq (wrap64 (t115 - 1)) x5_3 x6_3 x7_3 = some (r1, r2)) ∧ Aside0 (kq ≤ k2) ∧ Drawn0 w w')
                case atStart => exact ⟨(x5_2), (0), (0), (by first | rfl | (simp; done) | (simp [*]; done)), (by first | rfl | (simp; done) | (simp [*]; done)), (by first | rfl | (simp; done) | (simp [*]; done)), H', ⟨Nat.le_refl _⟩, by repeat (first | exact Drawn0.refl _ | apply Drawn0.step)⟩
                case round =>
                  clear H'
                  try clear c2
                  try clear c2b0
                  try clear c2b1
                  try clear p2
                  try clear c4
                  try clear c4b0
                  try clear c5
                  try clear c5b0
                  try clear p2
                  obtain ⟨x5_3, x6_3, x7_3, rfl, rfl, rfl, HA, HK3, ⟨m3, rfl⟩⟩ := hrel
                  cases gk with
                  | zero => exact absurd HA.out (by simp [psalteryref02_Log.l2])
                  | succ k3 =>
                    have H := HA.out
                    clear HA
                    simp only [psalteryref02_Log.l2] at H
                    by_cases c6 : x7_3 < 8
                    · rw [if_pos c6] at H
                      have c6b0 : decide (x7_3 < 8) = true := decide_eq_true c6
                      clear c6
                      by_cases c7 : (IntKind.u64.wrap (Int.tdiv (IntKind.u64.wrap (x5_3 * x5_3)) 1073741824)) ≥ 2147483648
                      · rw [if_pos c7] at H
                        have c7b0 : decide (2147483648 ≤ (IntKind.u64.wrap (Int.tdiv (IntKind.u64.wrap (x5_3 * x5_3)) 1073741824))) = true := decide_eq_true c7
                        clear c7
                        have H' := Aside0.mk H
                        clear H
                        go_wp2
                        go_roundg k3
                        case measure => have := HK1.out; have := HK2.out; have := HK3.out; omega
                        case rel => exact ⟨(IntKind.u64.wrap (Int.tdiv (IntKind.u64.wrap (Int.tdiv (IntKind.u64.wrap (x5_3 * x5_3)) 1073741824)) 2)), (wrap64 ((wrap64 (x6_3 * 2)) + 1)), (wrap64 (x7_3 + 1)), (by first | rfl | (simp; done) | (simp [*]; done)), (by first | rfl | (simp; done) | (simp [*]; done)), (by first | rfl | (simp; done) | (simp [*]; done)), H', ⟨by have := HK1.out; have := HK2.out; have := HK3.out; omega⟩, by repeat (first | exact Drawn0.refl _ | apply Drawn0.step)⟩
                      · rw [if_neg c7] at H
                        have c7b0 : decide (2147483648 ≤ (IntKind.u64.wrap (Int.tdiv (IntKind.u64.wrap (x5_3 * x5_3)) 1073741824))) = false := decide_eq_false c7
                        clear c7
                        have H' := Aside0.mk H
                        clear H
                        go_wp2
                        go_roundg k3
                        case measure => have := HK1.out; have := HK2.out; have := HK3.out; omega
                        case rel => exact ⟨(IntKind.u64.wrap (Int.tdiv (IntKind.u64.wrap (x5_3 * x5_3)) 1073741824)), (wrap64 (x6_3 * 2)), (wrap64 (x7_3 + 1)), (by first | rfl | (simp; done) | (simp [*]; done)), (by first | rfl | (simp; done) | (simp [*]; done)), (by first | rfl | (simp; done) | (simp [*]; done)), H', ⟨by have := HK1.out; have := HK2.out; have := HK3.out; omega⟩, by repeat (first | exact Drawn0.refl _ | apply Drawn0.step)⟩
                    · rw [if_neg c6] at H
                      have c6b0 : decide (x7_3 < 8) = false := decide_eq_false c6
                      clear c6
                      simp only [Option.some.injEq, Prod.mk.injEq] at H
                      obtain ⟨rfl, rfl⟩ := H
                      go_wp2
                      go_ret2
                      exact ⟨by first | rfl | (simp; done) | (simp [*]; done), by repeat (first | exact Drawn0.refl _ | apply Drawn0.step)⟩

/-! ### psalteryref02_Root: function 25 -/
def psalteryref02_Root.l0 : Nat → Int → Int → Int → Option (Int)
  | 0, _, _, _ => none
  | k + 1, x0, x3, x4 => if (IntKind.u64.wrap (x4 - x3)) > 1 then (if (IntKind.u64.wrap (Int.tdiv (IntKind.u64.wrap (x3 + x4)) 2)) = 0 then (none) else (if (IntKind.u64.wrap (Int.tdiv (IntKind.u64.wrap (x3 + x4)) 2)) ≤ (IntKind.u64.wrap (Int.tdiv x0 (IntKind.u64.wrap (Int.tdiv (IntKind.u64.wrap (x3 + x4)) 2)))) then (psalteryref02_Root.l0 k x0 (IntKind.u64.wrap (Int.tdiv (IntKind.u64.wrap (x3 + x4)) 2)) x4) else (psalteryref02_Root.l0 k x0 x3 (IntKind.u64.wrap (Int.tdiv (IntKind.u64.wrap (x3 + x4)) 2))))) else (some ((x3) % 4294967296))
def psalteryref02_Root.f (k : Nat) (a0 : Int) : Option (Int) := psalteryref02_Root.l0 k a0 0 4294967296
theorem psalteryref02_Root.mono_l : ∀ k, (∀ y0 y1 y2, LeO (psalteryref02_Root.l0 k y0 y1 y2) (psalteryref02_Root.l0 (k + 1) y0 y1 y2))
  | 0 => fun _ _ _ r h => by simp [psalteryref02_Root.l0] at h
  | k + 1 => by
    have ih0 := psalteryref02_Root.mono_l k
    · intro y0 y1 y2
      unfold psalteryref02_Root.l0
      repeat' first
      | (with_reducible exact ih0 _ _ _)
      | (with_reducible exact LeO.refl _)
      | (with_reducible exact LeO.none _)
      | (with_reducible refine LeO.ite ?_ ?_)
      | (with_reducible refine LeO.bind ?_ (fun _ => ?_))
      | exact ih0 _ _ _
      | exact LeO.none _
      | refine LeO.ite ?_ ?_
      | refine LeO.bind ?_ (fun _ => ?_)
theorem psalteryref02_Root.mono : ∀ a0 k, LeO (psalteryref02_Root.f k a0) (psalteryref02_Root.f (k + 1) a0) := by
  intro a0 k
  have ih0 := psalteryref02_Root.mono_l k
  unfold psalteryref02_Root.f
  repeat' first
      | (with_reducible exact ih0 _ _ _)
      | (with_reducible exact LeO.refl _)
      | (with_reducible exact LeO.none _)
      | (with_reducible refine LeO.ite ?_ ?_)
      | (with_reducible refine LeO.bind ?_ (fun _ => ?_))
      | exact ih0 _ _ _
      | exact LeO.none _
      | refine LeO.ite ?_ ?_
      | refine LeO.bind ?_ (fun _ => ?_)
set_option maxHeartbeats 8000000 in
set_option maxRecDepth 100000 in
theorem psalteryref02_Root.calls (k : Nat) (a0 : Int) (r : Int) (w : World) (h : psalteryref02_Root.f k a0 = some r) :
    Calls Try.prog 25 #[.int .u64 a0] w fun e w' => e = .returned (.int .u32 r) ∧ Drawn0 w w' := by
  have H : (psalteryref02_Root.l0 k a0 0 4294967296) = some r := h
  clear h
  have H' := Aside0.mk H
  clear H
  go_enter Try.func25, Try.ntmps25
  go_wp2
  go_loopg [3, 4] k (fun kq v3 v4 w' => ∃ (x3_1 : Int) (x4_1 : Int), v3 = .int .u64 x3_1 ∧ v4 = .int .u64 x4_1 ∧ Aside0 (psalteryref02_Root.l0 kq a0 x3_1 x4_1 = some r) ∧ Aside0 (kq ≤ k) ∧ Drawn0 w w')
  case atStart => exact ⟨(0), (4294967296), (by first | rfl | (simp; done) | (simp [*]; done)), (by first | rfl | (simp; done) | (simp [*]; done)), H', ⟨Nat.le_refl _⟩, by repeat (first | exact Drawn0.refl _ | apply Drawn0.step)⟩
  case round =>
    clear H'
    obtain ⟨x3_1, x4_1, rfl, rfl, HA, HK1, ⟨m1, rfl⟩⟩ := hrel
    cases gk with
    | zero => exact absurd HA.out (by simp [psalteryref02_Root.l0])
    | succ k1 =>
      have H := HA.out
      clear HA
      simp only [psalteryref02_Root.l0] at H
      by_cases c2 : (IntKind.u64.wrap (x4_1 - x3_1)) > 1
      · rw [if_pos c2] at H
        have c2b0 : decide (1 < (IntKind.u64.wrap (x4_1 - x3_1))) = true := decide_eq_true c2
        clear c2
        by_cases c3 : (IntKind.u64.wrap (Int.tdiv (IntKind.u64.wrap (x3_1 + x4_1)) 2)) = 0
        · rw [if_pos c3] at H
          exact absurd H (by simp)
        · rw [if_neg c3] at H
          have c3b0 : ((IntKind.u64.wrap (Int.tdiv (IntKind.u64.wrap (x3_1 + x4_1)) 2)) == 0) = false := beq_eq_false_iff_ne.mpr c3
          have c3b1 : ((IntKind.u64.wrap (Int.tdiv (IntKind.u64.wrap (x3_1 + x4_1)) 2)) != 0) = true := bne_iff_ne.mpr c3
          by_cases c4 : (IntKind.u64.wrap (Int.tdiv (IntKind.u64.wrap (x3_1 + x4_1)) 2)) ≤ (IntKind.u64.wrap (Int.tdiv a0 (IntKind.u64.wrap (Int.tdiv (IntKind.u64.wrap (x3_1 + x4_1)) 2))))
          · rw [if_pos c4] at H
            have c4b0 : decide ((IntKind.u64.wrap (Int.tdiv (IntKind.u64.wrap (x3_1 + x4_1)) 2)) ≤ (IntKind.u64.wrap (Int.tdiv a0 (IntKind.u64.wrap (Int.tdiv (IntKind.u64.wrap (x3_1 + x4_1)) 2))))) = true := decide_eq_true c4
            clear c4
            have H' := Aside0.mk H
            clear H
            go_wp2
            go_roundg k1
            case measure => have := HK1.out; omega
            case rel => exact ⟨(IntKind.u64.wrap (Int.tdiv (IntKind.u64.wrap (x3_1 + x4_1)) 2)), (x4_1), (by first | rfl | (simp; done) | (simp [*]; done)), (by first | rfl | (simp; done) | (simp [*]; done)), H', ⟨by have := HK1.out; omega⟩, by repeat (first | exact Drawn0.refl _ | apply Drawn0.step)⟩
          · rw [if_neg c4] at H
            have c4b0 : decide ((IntKind.u64.wrap (Int.tdiv (IntKind.u64.wrap (x3_1 + x4_1)) 2)) ≤ (IntKind.u64.wrap (Int.tdiv a0 (IntKind.u64.wrap (Int.tdiv (IntKind.u64.wrap (x3_1 + x4_1)) 2))))) = false := decide_eq_false c4
            clear c4
            have H' := Aside0.mk H
            clear H
            go_wp2
            go_roundg k1
            case measure => have := HK1.out; omega
            case rel => exact ⟨(x3_1), (IntKind.u64.wrap (Int.tdiv (IntKind.u64.wrap (x3_1 + x4_1)) 2)), (by first | rfl | (simp; done) | (simp [*]; done)), (by first | rfl | (simp; done) | (simp [*]; done)), H', ⟨by have := HK1.out; omega⟩, by repeat (first | exact Drawn0.refl _ | apply Drawn0.step)⟩
      · rw [if_neg c2] at H
        have c2b0 : decide (1 < (IntKind.u64.wrap (x4_1 - x3_1))) = false := decide_eq_false c2
        clear c2
        obtain rfl := Option.some.inj H
        go_wp2
        go_ret
        exact ⟨by first | rfl | (simp; done) | (simp [*]; done), by repeat (first | exact Drawn0.refl _ | apply Drawn0.step)⟩

/-! ### psalterylaw02_LogsReckon: function 5 -/
def psalterylaw02_LogsReckon.f (k : Nat) (a0 : Int) : Option (Bool) := (psalterylaw02_alive.f k).bind fun t116 => (if t116 = true then ((logs_Log.f k a0).bind fun bt117 => ((psalteryref02_Log.f k a0).bind fun bt119 => ((logs_Root.f k a0).bind fun t121 => ((psalteryref02_Root.f k a0).bind fun t122 => (if t121 = t122 then ((logs_Bits.f k a0).bind fun t123 => ((psalteryref02_Bits.f k a0).bind fun t124 => (if t123 = t124 then (if bt117.1 = bt119.1 then (some (bt117.2 == bt119.2)) else (some false)) else (some false)))) else (some false)))))) else (some false))
theorem psalterylaw02_LogsReckon.mono : ∀ a0 k, LeO (psalterylaw02_LogsReckon.f k a0) (psalterylaw02_LogsReckon.f (k + 1) a0) := by
  intro a0 k
  unfold psalterylaw02_LogsReckon.f
  repeat' first
      | (with_reducible exact logs_Bits.mono _ _)
      | (with_reducible exact logs_Log.mono _ _)
      | (with_reducible exact logs_Root.mono _ _)
      | (with_reducible exact psalterylaw02_alive.mono _)
      | (with_reducible exact psalteryref02_Bits.mono _ _)
      | (with_reducible exact psalteryref02_Log.mono _ _)
      | (with_reducible exact psalteryref02_Root.mono _ _)
      | (with_reducible exact LeO.refl _)
      | (with_reducible exact LeO.none _)
      | (with_reducible refine LeO.ite ?_ ?_)
      | (with_reducible refine LeO.bind ?_ (fun _ => ?_))
      | exact logs_Bits.mono _ _
      | exact logs_Log.mono _ _
      | exact logs_Root.mono _ _
      | exact psalterylaw02_alive.mono _
      | exact psalteryref02_Bits.mono _ _
      | exact psalteryref02_Log.mono _ _
      | exact psalteryref02_Root.mono _ _
      | exact LeO.none _
      | refine LeO.ite ?_ ?_
      | refine LeO.bind ?_ (fun _ => ?_)
set_option maxHeartbeats 8000000 in
set_option maxRecDepth 100000 in
theorem psalterylaw02_LogsReckon.calls (k : Nat) (a0 : Int) (r : Bool) (w : World) (h : psalterylaw02_LogsReckon.f k a0 = some r) :
    Calls Try.prog 5 #[.int .u64 a0] w fun e w' => e = .returned (.bool r) ∧ Below w.heap.size w w' := by
  have HB := Aside0.mk (Below.refl w.heap.size w)
  have H : ((psalterylaw02_alive.f k).bind fun t116 => (if t116 = true then ((logs_Log.f k a0).bind fun bt117 => ((psalteryref02_Log.f k a0).bind fun bt119 => ((logs_Root.f k a0).bind fun t121 => ((psalteryref02_Root.f k a0).bind fun t122 => (if t121 = t122 then ((logs_Bits.f k a0).bind fun t123 => ((psalteryref02_Bits.f k a0).bind fun t124 => (if t123 = t124 then (if bt117.1 = bt119.1 then (some (bt117.2 == bt119.2)) else (some false)) else (some false)))) else (some false)))))) else (some false))) = some r := h
  clear h
  replace H := Option.bind_eq_some_iff.mp H
  obtain ⟨t116, A20, H⟩ := H
  replace H : (if t116 = true then ((logs_Log.f k a0).bind fun bt117 => ((psalteryref02_Log.f k a0).bind fun bt119 => ((logs_Root.f k a0).bind fun t121 => ((psalteryref02_Root.f k a0).bind fun t122 => (if t121 = t122 then ((logs_Bits.f k a0).bind fun t123 => ((psalteryref02_Bits.f k a0).bind fun t124 => (if t123 = t124 then (if bt117.1 = bt119.1 then (some (bt117.2 == bt119.2)) else (some false)) else (some false)))) else (some false)))))) else (some false)) = some r := H
  have A2 := Aside0.mk A20
  clear A20
  by_cases c3 : t116 = true
  · subst c3
    have H1 : ((logs_Log.f k a0).bind fun bt117 => ((psalteryref02_Log.f k a0).bind fun bt119 => ((logs_Root.f k a0).bind fun t121 => ((psalteryref02_Root.f k a0).bind fun t122 => (if t121 = t122 then ((logs_Bits.f k a0).bind fun t123 => ((psalteryref02_Bits.f k a0).bind fun t124 => (if t123 = t124 then (if bt117.1 = bt119.1 then (some (bt117.2 == bt119.2)) else (some false)) else (some false)))) else (some false)))))) = some r := by rw [if_pos rfl] at H; exact H
    clear H
    have H := H1
    clear H1
    replace H := Option.bind_eq_some_iff.mp H
    obtain ⟨⟨t117, t118⟩, A40, H⟩ := H
    replace H : ((psalteryref02_Log.f k a0).bind fun bt119 => ((logs_Root.f k a0).bind fun t121 => ((psalteryref02_Root.f k a0).bind fun t122 => (if t121 = t122 then ((logs_Bits.f k a0).bind fun t123 => ((psalteryref02_Bits.f k a0).bind fun t124 => (if t123 = t124 then (if t117 = bt119.1 then (some (t118 == bt119.2)) else (some false)) else (some false)))) else (some false))))) = some r := H
    have A4 := Aside0.mk A40
    clear A40
    replace H := Option.bind_eq_some_iff.mp H
    obtain ⟨⟨t119, t120⟩, A50, H⟩ := H
    replace H : ((logs_Root.f k a0).bind fun t121 => ((psalteryref02_Root.f k a0).bind fun t122 => (if t121 = t122 then ((logs_Bits.f k a0).bind fun t123 => ((psalteryref02_Bits.f k a0).bind fun t124 => (if t123 = t124 then (if t117 = t119 then (some (t118 == t120)) else (some false)) else (some false)))) else (some false)))) = some r := H
    have A5 := Aside0.mk A50
    clear A50
    replace H := Option.bind_eq_some_iff.mp H
    obtain ⟨t121, A60, H⟩ := H
    replace H : ((psalteryref02_Root.f k a0).bind fun t122 => (if t121 = t122 then ((logs_Bits.f k a0).bind fun t123 => ((psalteryref02_Bits.f k a0).bind fun t124 => (if t123 = t124 then (if t117 = t119 then (some (t118 == t120)) else (some false)) else (some false)))) else (some false))) = some r := H
    have A6 := Aside0.mk A60
    clear A60
    replace H := Option.bind_eq_some_iff.mp H
    obtain ⟨t122, A70, H⟩ := H
    replace H : (if t121 = t122 then ((logs_Bits.f k a0).bind fun t123 => ((psalteryref02_Bits.f k a0).bind fun t124 => (if t123 = t124 then (if t117 = t119 then (some (t118 == t120)) else (some false)) else (some false)))) else (some false)) = some r := H
    have A7 := Aside0.mk A70
    clear A70
    by_cases c8 : t121 = t122
    · rw [if_pos c8] at H
      have c8b0 : (t121 == t122) = true := beq_iff_eq.mpr c8
      have c8b1 : (t121 != t122) = false := bne_eq_false_iff_eq.mpr c8
      clear c8
      replace H := Option.bind_eq_some_iff.mp H
      obtain ⟨t123, A90, H⟩ := H
      replace H : ((psalteryref02_Bits.f k a0).bind fun t124 => (if t123 = t124 then (if t117 = t119 then (some (t118 == t120)) else (some false)) else (some false))) = some r := H
      have A9 := Aside0.mk A90
      clear A90
      replace H := Option.bind_eq_some_iff.mp H
      obtain ⟨t124, A100, H⟩ := H
      replace H : (if t123 = t124 then (if t117 = t119 then (some (t118 == t120)) else (some false)) else (some false)) = some r := H
      have A10 := Aside0.mk A100
      clear A100
      by_cases c11 : t123 = t124
      · rw [if_pos c11] at H
        have c11b0 : (t123 == t124) = true := beq_iff_eq.mpr c11
        have c11b1 : (t123 != t124) = false := bne_eq_false_iff_eq.mpr c11
        clear c11
        by_cases c12 : t117 = t119
        · rw [if_pos c12] at H
          have c12b0 : (t117 == t119) = true := beq_iff_eq.mpr c12
          have c12b1 : (t117 != t119) = false := bne_eq_false_iff_eq.mpr c12
          clear c12
          obtain rfl := Option.some.inj H
          go_enter Try.func5, Try.ntmps5
          go_wp2_with (first | ((with_reducible refine gate_callee (f := 21) rfl ?_); refine goesL_ (some 7) rfl rfl Try.func21 (by kernel_rfl) rfl #[] rfl (by (try simp only [List.map_toArray, List.map_cons, List.map_nil]); first | done | rfl | (simp only [List.length_drop, List.length_take]; rfl)) ?_; (with_reducible refine (psalterylaw02_alive.calls k  true _ A2.out).mono ?_); rintro e w13 ⟨rfl, hb⟩; refine ⟨_, rfl, ?_⟩; have n0_ := Aside0.mk (below_step (by repeat (first | (with_reducible first | exact HB.out | apply below_alloc | apply pw_below_drewN | apply below_drew1) | exact HB.out)) hb); clear HB; have HB := n0_; clear n0_; (try clear hb); (try clear hb2); (try clear hk); (try clear hi)) | ((with_reducible refine gate_callee (f := 22) rfl ?_); refine goesL_ (some 11) rfl rfl Try.func22 (by kernel_rfl) rfl #[.int .u64 a0] rfl (by (try simp only [List.map_toArray, List.map_cons, List.map_nil]); first | done | rfl | (simp only [List.length_drop, List.length_take]; rfl)) ?_; (with_reducible refine (logs_Log.calls k a0 t117 t118 _ A4.out).mono ?_); rintro e w14 ⟨rfl, hb⟩; refine ⟨_, rfl, ?_⟩; have n0_ := Aside0.mk (below_step (by repeat (first | (with_reducible first | exact HB.out | apply below_alloc | apply pw_below_drewN | apply below_drew1) | exact HB.out)) hb); clear HB; have HB := n0_; clear n0_; (try clear hb); (try clear hb2); (try clear hk); (try clear hi)) | ((with_reducible refine gate_callee (f := 23) rfl ?_); refine goesL_ (some 16) rfl rfl Try.func23 (by kernel_rfl) rfl #[.int .u64 a0] rfl (by (try simp only [List.map_toArray, List.map_cons, List.map_nil]); first | done | rfl | (simp only [List.length_drop, List.length_take]; rfl)) ?_; (with_reducible refine (psalteryref02_Log.calls k a0 t119 t120 _ A5.out).mono ?_); rintro e w' ⟨rfl, ⟨nd, rfl⟩⟩; refine ⟨_, rfl, ?_⟩) | ((with_reducible refine gate_callee (f := 24) rfl ?_); refine goesL_ (some 20) rfl rfl Try.func24 (by kernel_rfl) rfl #[.int .u64 a0] rfl (by (try simp only [List.map_toArray, List.map_cons, List.map_nil]); first | done | rfl | (simp only [List.length_drop, List.length_take]; rfl)) ?_; (with_reducible refine (logs_Root.calls k a0 t121 _ A6.out).mono ?_); rintro e w' ⟨rfl, ⟨nd, rfl⟩⟩; refine ⟨_, rfl, ?_⟩) | ((with_reducible refine gate_callee (f := 25) rfl ?_); refine goesL_ (some 22) rfl rfl Try.func25 (by kernel_rfl) rfl #[.int .u64 a0] rfl (by (try simp only [List.map_toArray, List.map_cons, List.map_nil]); first | done | rfl | (simp only [List.length_drop, List.length_take]; rfl)) ?_; (with_reducible refine (psalteryref02_Root.calls k a0 t122 _ A7.out).mono ?_); rintro e w' ⟨rfl, ⟨nd, rfl⟩⟩; refine ⟨_, rfl, ?_⟩) | (go_at_call 26; (with_reducible refine (logs_Bits.calls k a0 t123 _ A9.out).mono ?_); rintro e w' ⟨rfl, ⟨nd, rfl⟩⟩) | (go_at_call 27; (with_reducible refine (psalteryref02_Bits.calls k a0 t124 _ A10.out).mono ?_); rintro e w' ⟨rfl, ⟨nd, rfl⟩⟩))
          go_ret
          exact ⟨by first | rfl | (simp [errW_none, errW_some] <;> rfl) | (simp [*, errW_none, errW_some] <;> rfl), by repeat (first | (with_reducible first | exact HB.out | apply below_alloc | apply pw_below_drewN | apply below_drew1) | exact HB.out)⟩
        · rw [if_neg c12] at H
          have c12b0 : (t117 == t119) = false := beq_eq_false_iff_ne.mpr c12
          have c12b1 : (t117 != t119) = true := bne_iff_ne.mpr c12
          obtain rfl := Option.some.inj H
          go_enter Try.func5, Try.ntmps5
          go_wp2_with (first | ((with_reducible refine gate_callee (f := 21) rfl ?_); refine goesL_ (some 7) rfl rfl Try.func21 (by kernel_rfl) rfl #[] rfl (by (try simp only [List.map_toArray, List.map_cons, List.map_nil]); first | done | rfl | (simp only [List.length_drop, List.length_take]; rfl)) ?_; (with_reducible refine (psalterylaw02_alive.calls k  true _ A2.out).mono ?_); rintro e w15 ⟨rfl, hb⟩; refine ⟨_, rfl, ?_⟩; have n0_ := Aside0.mk (below_step (by repeat (first | (with_reducible first | exact HB.out | apply below_alloc | apply pw_below_drewN | apply below_drew1) | exact HB.out)) hb); clear HB; have HB := n0_; clear n0_; (try clear hb); (try clear hb2); (try clear hk); (try clear hi)) | ((with_reducible refine gate_callee (f := 22) rfl ?_); refine goesL_ (some 11) rfl rfl Try.func22 (by kernel_rfl) rfl #[.int .u64 a0] rfl (by (try simp only [List.map_toArray, List.map_cons, List.map_nil]); first | done | rfl | (simp only [List.length_drop, List.length_take]; rfl)) ?_; (with_reducible refine (logs_Log.calls k a0 t117 t118 _ A4.out).mono ?_); rintro e w16 ⟨rfl, hb⟩; refine ⟨_, rfl, ?_⟩; have n0_ := Aside0.mk (below_step (by repeat (first | (with_reducible first | exact HB.out | apply below_alloc | apply pw_below_drewN | apply below_drew1) | exact HB.out)) hb); clear HB; have HB := n0_; clear n0_; (try clear hb); (try clear hb2); (try clear hk); (try clear hi)) | ((with_reducible refine gate_callee (f := 23) rfl ?_); refine goesL_ (some 16) rfl rfl Try.func23 (by kernel_rfl) rfl #[.int .u64 a0] rfl (by (try simp only [List.map_toArray, List.map_cons, List.map_nil]); first | done | rfl | (simp only [List.length_drop, List.length_take]; rfl)) ?_; (with_reducible refine (psalteryref02_Log.calls k a0 t119 t120 _ A5.out).mono ?_); rintro e w' ⟨rfl, ⟨nd, rfl⟩⟩; refine ⟨_, rfl, ?_⟩) | ((with_reducible refine gate_callee (f := 24) rfl ?_); refine goesL_ (some 20) rfl rfl Try.func24 (by kernel_rfl) rfl #[.int .u64 a0] rfl (by (try simp only [List.map_toArray, List.map_cons, List.map_nil]); first | done | rfl | (simp only [List.length_drop, List.length_take]; rfl)) ?_; (with_reducible refine (logs_Root.calls k a0 t121 _ A6.out).mono ?_); rintro e w' ⟨rfl, ⟨nd, rfl⟩⟩; refine ⟨_, rfl, ?_⟩) | ((with_reducible refine gate_callee (f := 25) rfl ?_); refine goesL_ (some 22) rfl rfl Try.func25 (by kernel_rfl) rfl #[.int .u64 a0] rfl (by (try simp only [List.map_toArray, List.map_cons, List.map_nil]); first | done | rfl | (simp only [List.length_drop, List.length_take]; rfl)) ?_; (with_reducible refine (psalteryref02_Root.calls k a0 t122 _ A7.out).mono ?_); rintro e w' ⟨rfl, ⟨nd, rfl⟩⟩; refine ⟨_, rfl, ?_⟩) | (go_at_call 26; (with_reducible refine (logs_Bits.calls k a0 t123 _ A9.out).mono ?_); rintro e w' ⟨rfl, ⟨nd, rfl⟩⟩) | (go_at_call 27; (with_reducible refine (psalteryref02_Bits.calls k a0 t124 _ A10.out).mono ?_); rintro e w' ⟨rfl, ⟨nd, rfl⟩⟩))
          go_ret
          exact ⟨by first | rfl | (simp [errW_none, errW_some] <;> rfl) | (simp [*, errW_none, errW_some] <;> rfl), by repeat (first | (with_reducible first | exact HB.out | apply below_alloc | apply pw_below_drewN | apply below_drew1) | exact HB.out)⟩
      · rw [if_neg c11] at H
        have c11b0 : (t123 == t124) = false := beq_eq_false_iff_ne.mpr c11
        have c11b1 : (t123 != t124) = true := bne_iff_ne.mpr c11
        obtain rfl := Option.some.inj H
        go_enter Try.func5, Try.ntmps5
        go_wp2_with (first | ((with_reducible refine gate_callee (f := 21) rfl ?_); refine goesL_ (some 7) rfl rfl Try.func21 (by kernel_rfl) rfl #[] rfl (by (try simp only [List.map_toArray, List.map_cons, List.map_nil]); first | done | rfl | (simp only [List.length_drop, List.length_take]; rfl)) ?_; (with_reducible refine (psalterylaw02_alive.calls k  true _ A2.out).mono ?_); rintro e w17 ⟨rfl, hb⟩; refine ⟨_, rfl, ?_⟩; have n0_ := Aside0.mk (below_step (by repeat (first | (with_reducible first | exact HB.out | apply below_alloc | apply pw_below_drewN | apply below_drew1) | exact HB.out)) hb); clear HB; have HB := n0_; clear n0_; (try clear hb); (try clear hb2); (try clear hk); (try clear hi)) | ((with_reducible refine gate_callee (f := 22) rfl ?_); refine goesL_ (some 11) rfl rfl Try.func22 (by kernel_rfl) rfl #[.int .u64 a0] rfl (by (try simp only [List.map_toArray, List.map_cons, List.map_nil]); first | done | rfl | (simp only [List.length_drop, List.length_take]; rfl)) ?_; (with_reducible refine (logs_Log.calls k a0 t117 t118 _ A4.out).mono ?_); rintro e w18 ⟨rfl, hb⟩; refine ⟨_, rfl, ?_⟩; have n0_ := Aside0.mk (below_step (by repeat (first | (with_reducible first | exact HB.out | apply below_alloc | apply pw_below_drewN | apply below_drew1) | exact HB.out)) hb); clear HB; have HB := n0_; clear n0_; (try clear hb); (try clear hb2); (try clear hk); (try clear hi)) | ((with_reducible refine gate_callee (f := 23) rfl ?_); refine goesL_ (some 16) rfl rfl Try.func23 (by kernel_rfl) rfl #[.int .u64 a0] rfl (by (try simp only [List.map_toArray, List.map_cons, List.map_nil]); first | done | rfl | (simp only [List.length_drop, List.length_take]; rfl)) ?_; (with_reducible refine (psalteryref02_Log.calls k a0 t119 t120 _ A5.out).mono ?_); rintro e w' ⟨rfl, ⟨nd, rfl⟩⟩; refine ⟨_, rfl, ?_⟩) | ((with_reducible refine gate_callee (f := 24) rfl ?_); refine goesL_ (some 20) rfl rfl Try.func24 (by kernel_rfl) rfl #[.int .u64 a0] rfl (by (try simp only [List.map_toArray, List.map_cons, List.map_nil]); first | done | rfl | (simp only [List.length_drop, List.length_take]; rfl)) ?_; (with_reducible refine (logs_Root.calls k a0 t121 _ A6.out).mono ?_); rintro e w' ⟨rfl, ⟨nd, rfl⟩⟩; refine ⟨_, rfl, ?_⟩) | ((with_reducible refine gate_callee (f := 25) rfl ?_); refine goesL_ (some 22) rfl rfl Try.func25 (by kernel_rfl) rfl #[.int .u64 a0] rfl (by (try simp only [List.map_toArray, List.map_cons, List.map_nil]); first | done | rfl | (simp only [List.length_drop, List.length_take]; rfl)) ?_; (with_reducible refine (psalteryref02_Root.calls k a0 t122 _ A7.out).mono ?_); rintro e w' ⟨rfl, ⟨nd, rfl⟩⟩; refine ⟨_, rfl, ?_⟩) | (go_at_call 26; (with_reducible refine (logs_Bits.calls k a0 t123 _ A9.out).mono ?_); rintro e w' ⟨rfl, ⟨nd, rfl⟩⟩) | (go_at_call 27; (with_reducible refine (psalteryref02_Bits.calls k a0 t124 _ A10.out).mono ?_); rintro e w' ⟨rfl, ⟨nd, rfl⟩⟩))
        go_ret
        exact ⟨by first | rfl | (simp [errW_none, errW_some] <;> rfl) | (simp [*, errW_none, errW_some] <;> rfl), by repeat (first | (with_reducible first | exact HB.out | apply below_alloc | apply pw_below_drewN | apply below_drew1) | exact HB.out)⟩
    · rw [if_neg c8] at H
      have c8b0 : (t121 == t122) = false := beq_eq_false_iff_ne.mpr c8
      have c8b1 : (t121 != t122) = true := bne_iff_ne.mpr c8
      obtain rfl := Option.some.inj H
      go_enter Try.func5, Try.ntmps5
      go_wp2_with (first | ((with_reducible refine gate_callee (f := 21) rfl ?_); refine goesL_ (some 7) rfl rfl Try.func21 (by kernel_rfl) rfl #[] rfl (by (try simp only [List.map_toArray, List.map_cons, List.map_nil]); first | done | rfl | (simp only [List.length_drop, List.length_take]; rfl)) ?_; (with_reducible refine (psalterylaw02_alive.calls k  true _ A2.out).mono ?_); rintro e w19 ⟨rfl, hb⟩; refine ⟨_, rfl, ?_⟩; have n0_ := Aside0.mk (below_step (by repeat (first | (with_reducible first | exact HB.out | apply below_alloc | apply pw_below_drewN | apply below_drew1) | exact HB.out)) hb); clear HB; have HB := n0_; clear n0_; (try clear hb); (try clear hb2); (try clear hk); (try clear hi)) | ((with_reducible refine gate_callee (f := 22) rfl ?_); refine goesL_ (some 11) rfl rfl Try.func22 (by kernel_rfl) rfl #[.int .u64 a0] rfl (by (try simp only [List.map_toArray, List.map_cons, List.map_nil]); first | done | rfl | (simp only [List.length_drop, List.length_take]; rfl)) ?_; (with_reducible refine (logs_Log.calls k a0 t117 t118 _ A4.out).mono ?_); rintro e w20 ⟨rfl, hb⟩; refine ⟨_, rfl, ?_⟩; have n0_ := Aside0.mk (below_step (by repeat (first | (with_reducible first | exact HB.out | apply below_alloc | apply pw_below_drewN | apply below_drew1) | exact HB.out)) hb); clear HB; have HB := n0_; clear n0_; (try clear hb); (try clear hb2); (try clear hk); (try clear hi)) | ((with_reducible refine gate_callee (f := 23) rfl ?_); refine goesL_ (some 16) rfl rfl Try.func23 (by kernel_rfl) rfl #[.int .u64 a0] rfl (by (try simp only [List.map_toArray, List.map_cons, List.map_nil]); first | done | rfl | (simp only [List.length_drop, List.length_take]; rfl)) ?_; (with_reducible refine (psalteryref02_Log.calls k a0 t119 t120 _ A5.out).mono ?_); rintro e w' ⟨rfl, ⟨nd, rfl⟩⟩; refine ⟨_, rfl, ?_⟩) | ((with_reducible refine gate_callee (f := 24) rfl ?_); refine goesL_ (some 20) rfl rfl Try.func24 (by kernel_rfl) rfl #[.int .u64 a0] rfl (by (try simp only [List.map_toArray, List.map_cons, List.map_nil]); first | done | rfl | (simp only [List.length_drop, List.length_take]; rfl)) ?_; (with_reducible refine (logs_Root.calls k a0 t121 _ A6.out).mono ?_); rintro e w' ⟨rfl, ⟨nd, rfl⟩⟩; refine ⟨_, rfl, ?_⟩) | ((with_reducible refine gate_callee (f := 25) rfl ?_); refine goesL_ (some 22) rfl rfl Try.func25 (by kernel_rfl) rfl #[.int .u64 a0] rfl (by (try simp only [List.map_toArray, List.map_cons, List.map_nil]); first | done | rfl | (simp only [List.length_drop, List.length_take]; rfl)) ?_; (with_reducible refine (psalteryref02_Root.calls k a0 t122 _ A7.out).mono ?_); rintro e w' ⟨rfl, ⟨nd, rfl⟩⟩; refine ⟨_, rfl, ?_⟩))
      go_ret
      exact ⟨by first | rfl | (simp [errW_none, errW_some] <;> rfl) | (simp [*, errW_none, errW_some] <;> rfl), by repeat (first | (with_reducible first | exact HB.out | apply below_alloc | apply pw_below_drewN | apply below_drew1) | exact HB.out)⟩
  · replace c3 := Bool.eq_false_iff.mpr c3
    subst c3
    have H1 : (some false) = some r := by rw [if_neg (show ¬ (false = true) by decide)] at H; exact H
    clear H
    have H := H1
    clear H1
    obtain rfl := Option.some.inj H
    go_enter Try.func5, Try.ntmps5
    go_wp2_with (first | ((with_reducible refine gate_callee (f := 21) rfl ?_); refine goesL_ (some 7) rfl rfl Try.func21 (by kernel_rfl) rfl #[] rfl (by (try simp only [List.map_toArray, List.map_cons, List.map_nil]); first | done | rfl | (simp only [List.length_drop, List.length_take]; rfl)) ?_; (with_reducible refine (psalterylaw02_alive.calls k  false _ A2.out).mono ?_); rintro e w21 ⟨rfl, hb⟩; refine ⟨_, rfl, ?_⟩; have n0_ := Aside0.mk (below_step (by repeat (first | (with_reducible first | exact HB.out | apply below_alloc | apply pw_below_drewN | apply below_drew1) | exact HB.out)) hb); clear HB; have HB := n0_; clear n0_; (try clear hb); (try clear hb2); (try clear hk); (try clear hi)))
    go_ret
    exact ⟨by first | rfl | (simp [errW_none, errW_some] <;> rfl) | (simp [*, errW_none, errW_some] <;> rfl), by repeat (first | (with_reducible first | exact HB.out | apply below_alloc | apply pw_below_drewN | apply below_drew1) | exact HB.out)⟩

/-- THE ONE PURE STATEMENT of psalterylaw02_LogsReckon: yours. -/
def psalterylaw02_LogsReckon.Pure : Prop := ∀ (a0 : Int), (Lit.int .u64 a0).wf = true → ∃ k, psalterylaw02_LogsReckon.f k a0 = some true
theorem psalterylaw02_LogsReckon.walk (P : psalterylaw02_LogsReckon.Pure) (a0 : Int) (w : World) (w0 : (Lit.int .u64 a0).wf = true) :
    Calls Try.prog 5 #[.int .u64 a0] w fun e w' => e = .returned (.bool true) ∧ Below w.heap.size w w' := by
  obtain ⟨k, h⟩ := P a0 w0
  refine (psalterylaw02_LogsReckon.calls k a0 true w h).mono ?_
  rintro e w' ⟨rfl, hd⟩
  exact ⟨rfl, hd⟩

/-! ### psalteryref02_roots: function 52 -/
def psalteryref02_roots.f  : Option (List Int) := some (([1518500249, 1276901416, 1170923761, 1121280435, 1097253708, 1085434105, 1079572135, 1076653033] : List Int))
set_option maxHeartbeats 8000000 in
set_option maxRecDepth 100000 in
theorem psalteryref02_roots.calls  (r : List Int) (w : World) (h : psalteryref02_roots.f  = some r) :
    Calls Try.prog 52 #[] w fun e w' => ∃ v0_ : Value, e = .returned (v0_) ∧ Kd.R (Kd.int .u64) 25 w' w.heap.size (fun _ => True) v0_ r ∧ Below w.heap.size w w' := by
  have HB := Aside0.mk (Below.refl w.heap.size w)
  have H : (some (([1518500249, 1276901416, 1170923761, 1121280435, 1097253708, 1085434105, 1079572135, 1076653033] : List Int))) = some r := h
  clear h
  obtain ⟨y125, hy125⟩ : ∃ y_ : List Int, y_ = (([1518500249, 1276901416, 1170923761, 1121280435, 1097253708, 1085434105, 1079572135, 1076653033] : List Int)) := ⟨_, rfl⟩
  replace H : (some y125) = some r := by first | (rw [hy125]; with_reducible exact H) | (have H2_ := (Option.bind_some _ _).symm.trans H; rw [hy125]; with_reducible exact H2_) | (have H2_ := (Option.bind_some _ _).symm.trans H; with_reducible exact H2_) | with_reducible exact H | (rw [hy125]; exact H) | exact H
  have Ny125 := Aside0.mk hy125
  clear hy125
  obtain rfl := Option.some.inj H
  go_enter Try.func52, Try.ntmps52
  go_wp2_with (first | ((with_reducible refine gate_dst (N := 1) rfl ?_); refine Kd.R_lit (Kd.int .u64) _ 25 ?hg (N := 1) ?hd (xs := ([1518500249, 1276901416, 1170923761, 1121280435, 1097253708, 1085434105, 1079572135, 1076653033] : List Int)) (inner := [.int .u64 1518500249, .int .u64 1276901416, .int .u64 1170923761, .int .u64 1121280435, .int .u64 1097253708, .int .u64 1085434105, .int .u64 1079572135, .int .u64 1076653033]) (ok := fun _ => True) (okp := fun _ => True) ?hr ?hp (fun _ hk => hk) trivial (Below.refl _ _) (Nat.le_refl _) (by simp) ?_; (case hd => rfl); (case hg => rfl); (case hr => first | (go_simp; done) | (go_simp; rfl)); (case hp => exact (Reps.one (show Kd.M (Kd.int .u64) _ _ _ 1518500249 [.int .u64 1518500249] from rfl) (Reps.one (show Kd.M (Kd.int .u64) _ _ _ 1276901416 [.int .u64 1276901416] from rfl) (Reps.one (show Kd.M (Kd.int .u64) _ _ _ 1170923761 [.int .u64 1170923761] from rfl) (Reps.one (show Kd.M (Kd.int .u64) _ _ _ 1121280435 [.int .u64 1121280435] from rfl) (Reps.one (show Kd.M (Kd.int .u64) _ _ _ 1097253708 [.int .u64 1097253708] from rfl) (Reps.one (show Kd.M (Kd.int .u64) _ _ _ 1085434105 [.int .u64 1085434105] from rfl) (Reps.one (show Kd.M (Kd.int .u64) _ _ _ 1079572135 [.int .u64 1079572135] from rfl) (Reps.one (show Kd.M (Kd.int .u64) _ _ _ 1076653033 [.int .u64 1076653033] from rfl) (Reps.none _ _)))))))))); intro v126 w1 ho2 hb hg_ hnew_; clear hg_ hnew_; (first | rw [← Ny125.out] at ho2 | (simp only [Int.reduceToNat] at ho2; rw [← Ny125.out] at ho2)); have n0_ := Aside0.mk (Kd.R_lower ho2 (below_size (by repeat (first | (with_reducible first | exact HB.out | apply below_alloc | apply pw_below_drewN | apply below_drew1) | exact HB.out)))); have n1_ := Aside0.mk (below_step (by repeat (first | (with_reducible first | exact HB.out | apply below_alloc | apply pw_below_drewN | apply below_drew1) | exact HB.out)) hb); clear HB; have HO127 := n0_; have HB := n1_; clear n0_ n1_; clear hb ho2))
  go_ret
  exact ⟨_, by first | rfl | (simp [errW_none, errW_some] <;> rfl) | (simp [*, errW_none, errW_some] <;> rfl), by (with_reducible repeat (first | apply Kd.R_alloc | apply Kd.R_drewN | apply Kd.R_drew)); exact HO127.out, by repeat (first | (with_reducible first | exact HB.out | apply below_alloc | apply pw_below_drewN | apply below_drew1) | exact HB.out)⟩

/-! ### psalteryref01_down: function 71 -/
def psalteryref01_down.f (a0 : Int) (a1 : Int) : Option (Int) := if a1 = 0 then (none) else (if (Int.tmod a0 a1) < 0 then (some (wrap64 ((wrap64 (Int.tdiv a0 a1)) - 1))) else (some (wrap64 (Int.tdiv a0 a1))))
set_option maxHeartbeats 8000000 in
set_option maxRecDepth 100000 in
theorem psalteryref01_down.calls (a0 : Int) (a1 : Int) (r : Int) (w : World) (h : psalteryref01_down.f a0 a1 = some r) :
    Calls Try.prog 71 #[.int .i64 a0, .int .i64 a1] w fun e w' => e = .returned (.int .i64 r) ∧ Drawn0 w w' := by
  have H : (if a1 = 0 then (none) else (if (Int.tmod a0 a1) < 0 then (some (wrap64 ((wrap64 (Int.tdiv a0 a1)) - 1))) else (some (wrap64 (Int.tdiv a0 a1))))) = some r := h
  clear h
  by_cases c3 : a1 = 0
  · rw [if_pos c3] at H
    exact absurd H (by simp)
  · rw [if_neg c3] at H
    have c3b0 : (a1 == 0) = false := beq_eq_false_iff_ne.mpr c3
    have c3b1 : (a1 != 0) = true := bne_iff_ne.mpr c3
    by_cases c4 : (Int.tmod a0 a1) < 0
    · rw [if_pos c4] at H
      have c4b0 : decide ((Int.tmod a0 a1) < 0) = true := decide_eq_true c4
      clear c4
      obtain rfl := Option.some.inj H
      go_enter Try.func71, Try.ntmps71
      go_wp2
      go_ret
      exact ⟨by first | rfl | (simp; done) | (simp [*]; done), by repeat (first | exact Drawn0.refl _ | apply Drawn0.step)⟩
    · rw [if_neg c4] at H
      have c4b0 : decide ((Int.tmod a0 a1) < 0) = false := decide_eq_false c4
      clear c4
      obtain rfl := Option.some.inj H
      go_enter Try.func71, Try.ntmps71
      go_wp2
      go_ret
      exact ⟨by first | rfl | (simp; done) | (simp [*]; done), by repeat (first | exact Drawn0.refl _ | apply Drawn0.step)⟩

/-! ### psalteryref01_Round: function 53 -/
def psalteryref01_Round.f (a0 : Int) (a1 : Int) : Option (Int) := if (mx (mn a1 62) 0) = 0 then (some a0) else (if 0 ≤ (IntKind.u64.wrap ((mx (mn a1 62) 0) - 1)) then ((psalteryref01_down.f a0 (shl .i64 1 (IntKind.u64.wrap ((mx (mn a1 62) 0) - 1)))).bind fun t128 => ((psalteryref01_down.f (wrap64 (t128 + 1)) 2).bind fun t129 => (some t129))) else (none))
set_option maxHeartbeats 8000000 in
set_option maxRecDepth 100000 in
theorem psalteryref01_Round.calls (a0 : Int) (a1 : Int) (r : Int) (w : World) (h : psalteryref01_Round.f a0 a1 = some r) :
    Calls Try.prog 53 #[.int .i64 a0, .int .i64 a1] w fun e w' => e = .returned (.int .i64 r) ∧ Below w.heap.size w w' := by
  have HB := Aside0.mk (Below.refl w.heap.size w)
  have H : (if (mx (mn a1 62) 0) = 0 then (some a0) else (if 0 ≤ (IntKind.u64.wrap ((mx (mn a1 62) 0) - 1)) then ((psalteryref01_down.f a0 (shl .i64 1 (IntKind.u64.wrap ((mx (mn a1 62) 0) - 1)))).bind fun t128 => ((psalteryref01_down.f (wrap64 (t128 + 1)) 2).bind fun t129 => (some t129))) else (none))) = some r := h
  clear h
  obtain ⟨ji3, hji3⟩ : ∃ j_ : Int, (mn a1 62) = j_ := ⟨_, rfl⟩
  replace H : (if (mx (ji3) 0) = 0 then (some a0) else (if 0 ≤ (IntKind.u64.wrap ((mx (ji3) 0) - 1)) then ((psalteryref01_down.f a0 (shl .i64 1 (IntKind.u64.wrap ((mx (ji3) 0) - 1)))).bind fun t128 => ((psalteryref01_down.f (wrap64 (t128 + 1)) 2).bind fun t129 => (some t129))) else (none))) = some r := by first | (rw [hji3] at H; exact H) | (simp only [hji3] at H ⊢; exact H)
  (try (have hji3h : ji3 ≤ 62 := by (rw [← hji3]; unfold mn; (repeat' split) <;> omega)))
  (try (have hji3g : ji3 ≤ 64 := by omega))
  have hji3_ : (if 62 < a1 then 62 else a1) = ji3 := hji3
  obtain ⟨ji4, hji4⟩ : ∃ j_ : Int, (mx (ji3) 0) = j_ := ⟨_, rfl⟩
  replace H : (if (ji4) = 0 then (some a0) else (if 0 ≤ (IntKind.u64.wrap ((ji4) - 1)) then ((psalteryref01_down.f a0 (shl .i64 1 (IntKind.u64.wrap ((ji4) - 1)))).bind fun t128 => ((psalteryref01_down.f (wrap64 (t128 + 1)) 2).bind fun t129 => (some t129))) else (none))) = some r := by first | (rw [hji4] at H; exact H) | (simp only [hji4] at H ⊢; exact H)
  have hji4_ : (if (ji3) < 0 then 0 else (ji3)) = ji4 := hji4
  by_cases c5 : (ji4) = 0
  · rw [if_pos c5] at H
    have c5b0 : ((ji4) == 0) = true := beq_iff_eq.mpr c5
    have c5b1 : ((ji4) != 0) = false := bne_eq_false_iff_eq.mpr c5
    clear c5
    obtain rfl := Option.some.inj H
    go_enter Try.func53, Try.ntmps53
    go_wp2
    go_ret
    exact ⟨by first | rfl | (simp [errW_none, errW_some] <;> rfl) | (simp only [← hji3, ← hji4]; first | rfl | (simp [errW_none, errW_some] <;> rfl)) | (simp [*, errW_none, errW_some] <;> rfl), by repeat (first | (with_reducible first | exact HB.out | apply below_alloc | apply pw_below_drewN | apply below_drew1) | exact HB.out)⟩
  · rw [if_neg c5] at H
    have c5b0 : ((ji4) == 0) = false := beq_eq_false_iff_ne.mpr c5
    have c5b1 : ((ji4) != 0) = true := bne_iff_ne.mpr c5
    obtain ⟨ji6, hji6⟩ : ∃ j_ : Int, (IntKind.u64.wrap ((ji4) - 1)) = j_ := ⟨_, rfl⟩
    replace H : (if 0 ≤ (ji6) then ((psalteryref01_down.f a0 (shl .i64 1 (ji6))).bind fun t128 => ((psalteryref01_down.f (wrap64 (t128 + 1)) 2).bind fun t129 => (some t129))) else (none)) = some r := by first | (rw [hji6] at H; exact H) | (simp only [hji6] at H ⊢; exact H)
    by_cases c7 : 0 ≤ (ji6)
    · rw [if_pos c7] at H
      have c7b0 := eq_true c7
      have c7b1 : decide (0 ≤ (ji6)) = true := decide_eq_true c7
      clear c7
      obtain ⟨ji8, hji8⟩ : ∃ j_ : Int, (shl .i64 1 (ji6)) = j_ := ⟨_, rfl⟩
      replace H : ((psalteryref01_down.f a0 (ji8)).bind fun t128 => ((psalteryref01_down.f (wrap64 (t128 + 1)) 2).bind fun t129 => (some t129))) = some r := by first | (rw [hji8] at H; exact H) | (simp only [hji8] at H ⊢; exact H)
      have hji8_ : (IntKind.i64.wrap (1 * 2 ^ min (ji6).toNat 64)) = ji8 := hji8
      have hji8z : (ji6) ≤ 64 → (IntKind.i64.wrap (1 * 2 ^ (ji6).toNat)) = ji8 := shl_small hji8
      have hji8u : (IntKind.i64.wrap (2 ^ min (ji6).toNat 64)) = ji8 := by have h_ := hji8_; rw [Int.one_mul] at h_; exact h_
      have hji8v : (ji6) ≤ 64 → (IntKind.i64.wrap (2 ^ (ji6).toNat)) = ji8 := fun hle_ => by have h_ := hji8z hle_; rw [Int.one_mul] at h_; exact h_
      have hji8y : (wrap64 (1 * 2 ^ min (ji6).toNat 64)) = ji8 := (i64_w _).symm.trans hji8_
      have hji8x : (ji6) ≤ 64 → (wrap64 (1 * 2 ^ (ji6).toNat)) = ji8 := fun h_ => (i64_w _).symm.trans (hji8z h_)
      have hq_ : ji6 = ji3 - 1 ∧ 0 < ji3 := by
        have h1_ := hji4_; have h2_ := hji6; rw [IntKind.wrap_u64] at h2_
        split at h1_ <;> omega
      have hji8q : (wrap64 (2 ^ (ji3.toNat - 1))) = ji8 := by
        have e_ : ji6.toNat = ji3.toNat - 1 := by omega
        rw [← e_]; exact (i64_w _).symm.trans (hji8v (by omega))
      clear hq_
      replace H := Option.bind_eq_some_iff.mp H
      obtain ⟨t128, A90, H⟩ := H
      replace H : ((psalteryref01_down.f (wrap64 (t128 + 1)) 2).bind fun t129 => (some t129)) = some r := H
      have A9 := Aside0.mk A90
      clear A90
      replace H := Option.bind_eq_some_iff.mp H
      obtain ⟨t129, A100, H⟩ := H
      replace H : (some t129) = some r := H
      have A10 := Aside0.mk A100
      clear A100
      obtain rfl := Option.some.inj H
      go_enter Try.func53, Try.ntmps53
      go_wp2_with (first | ((with_reducible refine gate_callee (f := 71) rfl ?_); refine goesL_ (some 18) rfl rfl Try.func71 (by kernel_rfl) rfl #[.int .i64 a0, .int .i64 ji8] rfl (by (try simp only [List.map_toArray, List.map_cons, List.map_nil]); first | done | (simp only [hji8]; rfl) | rfl | (simp [Act.eval]; exact hji8q) | (simp only [List.length_drop, List.length_take]; rfl)) ?_; (with_reducible refine (psalteryref01_down.calls a0 ji8 t128 _ A9.out).mono ?_); rintro e w' ⟨rfl, ⟨nd, rfl⟩⟩; refine ⟨_, rfl, ?_⟩) | ((with_reducible refine gate_callee (f := 71) rfl ?_); refine goesL_ (some 20) rfl rfl Try.func71 (by kernel_rfl) rfl #[.int .i64 (wrap64 (t128 + 1)), .int .i64 2] rfl (by (try simp only [List.map_toArray, List.map_cons, List.map_nil]); first | done | rfl | (simp only [List.length_drop, List.length_take]; rfl)) ?_; (with_reducible refine (psalteryref01_down.calls (wrap64 (t128 + 1)) 2 t129 _ A10.out).mono ?_); rintro e w' ⟨rfl, ⟨nd, rfl⟩⟩; refine ⟨_, rfl, ?_⟩))
      go_ret
      exact ⟨by first | rfl | (simp [errW_none, errW_some] <;> rfl) | (simp only [← hji3, ← hji4, ← hji6, ← hji8]; first | rfl | (simp [errW_none, errW_some] <;> rfl)) | (simp [*, errW_none, errW_some] <;> rfl), by repeat (first | (with_reducible first | exact HB.out | apply below_alloc | apply pw_below_drewN | apply below_drew1) | exact HB.out)⟩
    · rw [if_neg c7] at H
      exact absurd H (by simp)

end Go.Proofs.Ytfipchhpnnjkeaa.PLogs
