/- Pitch: the law PitchCombs walked. -/
import Derived.Test.YtblehkoonajofaaPitchHuntsWalk
import Derived.Test.YtblehkoonajofaaPitchCombPure
import Derived.Test.YtblehkoonajofaaSameLibPitch
namespace Go.Proofs.Ytblehkoonajofaa.PPitch
open Go.RowKit Go.Proofs.YtblehkoonajofaaW.PrintWords Go.Proofs.YtblehkoonajofaaW.PrintLast Go.Proofs.YtblehkoonajofaaW.PrintMore
attribute [local go_sem] max2_int min2_int max_two min_two max_three min_three max_four min_four   -- for this text's walks alone
set_option linter.unusedVariables false
set_option linter.unusedSimpArgs false
theorem reads_C {w : World} {k : IntKind} {A : Option Addr} {n : Nat} {xs : List Int} (r : ReadsInt w k A n xs) : Kd.C (Kd.int k) w A n xs := Kd.C_of_reads (enc := Value.int k) (d := (0 : Int)) r
theorem same_call (A0 A1 : Option Addr) (c0 c1 n0 n1 : Nat) (O : List Int) (w : World) (h0 : O.length = n0) (h1 : O.length = n1) (r0 : ReadsInt w .i16 A0 n0 O) (hc0 : n0 ≤ c0) (r1 : Kd.C (Kd.int .i16) w A1 O.length O) (hc1 : n1 ≤ c1) (hl : O.length ≤ 1000000) :
    Calls Try.prog 21 #[.slice A0 n0 c0, .slice A1 n1 c1] w fun e w' => e = .returned (.bool true) ∧ Drawn0 w w' := by
  subst h0
  subst h1
  exact psalteryref04_Same.calls (O.length + 1) A0 c0 O A1 c1 O true w (reads_C r0) hc0 r1 hc1 (Go.Proofs.Ytblehkoonajofaa.SameLibPitch.Same_eq hl (Nat.lt_succ_self _))
set_option maxHeartbeats 8000000 in
set_option maxRecDepth 100000 in
theorem psalterylaw18_PitchCombs.long (A0 A1 : Option Addr) (c0 n0 c1 n1 : Nat) (w : World) (hl : 8 < n0) :
    Calls Try.prog 4 #[.slice A0 n0 c0, .slice A1 n1 c1] w fun e w' => e = .returned (.bool true) ∧ Below w.heap.size w w' := by
  have t0 : decide ((8 : Int) < (n0 : Int)) = true := decide_eq_true (by omega)
  have t1 : decide (8 < n0) = true := decide_eq_true hl
  clear hl
  go_enter Try.func4, Try.ntmps4
  go_wp2_with (first | (go_at_call 13; refine (psalterylaw18_alive.holds _).mono ?_; rintro e w1 ⟨rfl, g2⟩; have HB1 := Aside0.mk g2; clear g2))
  go_ret
  exact ⟨rfl, HB1.out⟩
set_option maxHeartbeats 8000000 in
set_option maxRecDepth 100000 in
theorem psalterylaw18_PitchCombs.walk (A0 A1 : Option Addr) (c0 n0 c1 n1 : Nat) (w : World) (hl : n0 ≤ 8)
    (hrow : ∀ i : Nat, i < n0 → ∃ ad A c x, A0 = some ad ∧ w.cell? (ad.add i) = some (.slice A x.length c) ∧ ReadsInt w .i32 A x.length x ∧ ∀ v ∈ x, -2147483648 ≤ v ∧ v ≤ 2147483647)
    (hps : ∀ i : Nat, i < n1 → ∃ ad lag st, A1 = some ad ∧ w.cell? (ad.add (i * 2)) = some (.int .i64 lag) ∧ w.cell? ⟨(ad.add (i * 2)).block, (ad.add (i * 2)).off + 1, none⟩ = some (.int .i64 st)) :
    Calls Try.prog 4 #[.slice A0 n0 c0, .slice A1 n1 c1] w fun e w' => e = .returned (.bool true) ∧ Below w.heap.size w w' := by
  have HR := Aside0.mk hrow
  have HP := Aside0.mk hps
  have HL := Aside0.mk hl
  have hu29 := Try.underlying29
  have hu34 := Try.underlying34
  have t0 : decide ((8 : Int) < (n0 : Int)) = false := decide_eq_false (by omega)
  have t1 : decide (8 < n0) = false := decide_eq_false (by omega)
  clear hl hrow hps
  go_enter Try.func4, Try.ntmps4
  go_wp2_with (first | (go_at_call 13; refine (psalterylaw18_alive.holds _).mono ?_; rintro e w1 ⟨rfl, g2⟩; have HB1 := Aside0.mk g2; clear g2) | (go_at_call 17; refine (pitch_NewComb.calls _).mono ?_; rintro e w2 ⟨rfl, g1, g2⟩; have HI := Aside0.mk (show HInv w w2 w1.heap.size 95 (lasts []) (.slice none 0 0) [] from ⟨by rw [lasts_nil]; exact g1, own_nil _ _ _ _, below_step HB1.out g2, below_size HB1.out⟩); clear g1 g2))
  go_loopg [6, 7, 8, 9, 10, 11, 12] n0 (fun kq v6 v7 v8 v9 v10 v11 v12 wx => ∃ (i : Nat) (u : Value) (B : List Int), v7 = .int .i64 i ∧ v6 = u ∧ Aside0 (kq + i = n0) ∧ Aside0 (HInv w wx w1.heap.size 95 (lasts B) u B) ∧ Aside0 (B.length ≤ 120 * i ∧ ∀ v ∈ B, -2147483648 ≤ v ∧ v ≤ 2147483647))
  case atStart => exact ⟨0, _, [], rfl, rfl, ⟨rfl⟩, HI, ⟨by simp, fun v hv => by cases hv⟩⟩
  case round =>
    clear HI
    obtain ⟨i, u6, B, rfl, rfl, HK, HI, HB⟩ := hrel
    by_cases hi : i < n0
    · by_cases hi1 : i < n1
      · obtain ⟨ad0, Ai, ci, x, e0, hx0, hC, hxr⟩ := HR.out i hi
        obtain ⟨ad1, lag, st, e1, hp0, hp1⟩ := HP.out i hi1
        have q0 : ((i : Int) < (n0 : Int)) = True := eq_true (by omega)
        have b0 : decide ((i : Int) < (n0 : Int)) = true := decide_eq_true (by omega)
        have b1 : decide (i < n0) = true := decide_eq_true hi
        have q1 : ((i : Int) < (n1 : Int)) = True := eq_true (by omega)
        have b2 : decide ((i : Int) < (n1 : Int)) = true := decide_eq_true (by omega)
        have b3 : decide (i < n1) = true := decide_eq_true hi1
        subst e0
        subst e1
        have hy0 := (HI.out.be.cell (World.block_lt_of_cell? w _ hx0)).trans hx0
        have hy1 := (HI.out.be.cell (World.block_lt_of_cell? w _ hp0)).trans hp0
        have hy2 := (HI.out.be.cell (World.block_lt_of_cell? w _ hp1)).trans hp1
        have HX0 := Aside0.mk hx0
        have HP0 := Aside0.mk hp0
        have HP1 := Aside0.mk hp1
        have HC0 := Aside0.mk hC
        have HXR := Aside0.mk hxr
        have HII := Aside0.mk hi
        obtain ⟨g0, hg0⟩ : ∃ g0, g0 + 1 = gk := ⟨gk - 1, by have := HK.out; omega⟩
        have HGO := Aside0.mk hg0
        clear hx0 hC hxr hi hg0 hp0 hp1 hi1
        by_cases hxl : 300 < x.length
        · have l0 : decide ((300 : Int) < (x.length : Int)) = true := decide_eq_true (by omega)
          have l1 : decide (300 < x.length) = true := decide_eq_true (by omega)
          clear hxl
          go_wp2
          repeat (go_quiet (fail); try go_wp2)
          go_ret
          exact ⟨rfl, HI.out.be⟩
        · have l0 : decide ((300 : Int) < (x.length : Int)) = false := decide_eq_false (by omega)
          have l1 : decide (300 < x.length) = false := decide_eq_false (by omega)
          clear hxl
          by_cases hxm : 120 < x.length
          · have m0 : decide ((120 : Int) < (x.length : Int)) = true := decide_eq_true (by omega)
            have m1 : decide (120 < x.length) = true := decide_eq_true (by omega)
            have HXM := Aside0.mk hxm
            clear hxm
            cases hok : okPitch lag st with
            | true =>
              have HOK := Aside0.mk hok
              clear hok
              have HI1 := Aside0.mk (show HInv w wr.drew w1.heap.size 95 (lasts B) u6 B from HI.out.later (pw_below_drewN (Below.refl _ _) 1))
              have hx1 := (HI1.out.be.cell (World.block_lt_of_cell? w _ HX0.out)).trans HX0.out
              have hp1 := (HI1.out.be.cell (World.block_lt_of_cell? w _ HP0.out)).trans HP0.out
              have hq1 := (HI1.out.be.cell (World.block_lt_of_cell? w _ HP1.out)).trans HP1.out
              go_wp2
              go_region_held3 (fun w' => w'.cell? (ad0.add i) = some (.slice Ai x.length ci) ∧ w'.cell? (ad1.add (i * 2)) = some (.int .i64 lag) ∧ w'.cell? ⟨(ad1.add (i * 2)).block, (ad1.add (i * 2)).off + 1, none⟩ = some (.int .i64 st)) (first | exact ⟨hx1, hp1, hq1⟩ | exact ⟨hx3, hp3, hq3⟩ | exact ⟨hx7, hp7, hq7⟩ | exact ⟨hx8, hp8, hq8⟩ | exact ⟨hx9, hp9, hq9⟩)
                (first | (go_at_call 18; refine (pitch_Comb_Feed.long w1.heap.size Ai x.length ci lag st _ HXM.out).mono ?_; rintro e w3 ⟨rfl, g2⟩; have HI3 := Aside0.mk (HI1.out.later g2); have hx3 := (HI3.out.be.cell (World.block_lt_of_cell? w _ HX0.out)).trans HX0.out; have hp3 := (HI3.out.be.cell (World.block_lt_of_cell? w _ HP0.out)).trans HP0.out; have hq3 := (HI3.out.be.cell (World.block_lt_of_cell? w _ HP1.out)).trans HP1.out; clear g2))
              go_wp2_with (first | (go_at_call 19; refine (psalteryref18_Check.calls lag st true _ (by rw [refCheck_eq, HOK.out])).mono ?_; rintro e w4 ⟨rfl, g2⟩; have HI4 := Aside0.mk (HI3.out.later g2); have hx4 := (HI4.out.be.cell (World.block_lt_of_cell? w _ HX0.out)).trans HX0.out; have hp4 := (HI4.out.be.cell (World.block_lt_of_cell? w _ HP0.out)).trans HP0.out; have hq4 := (HI4.out.be.cell (World.block_lt_of_cell? w _ HP1.out)).trans HP1.out; clear g2) | (go_at_call 20; refine (pitch_Check.calls lag st 0 _ (by rw [check_eq, HOK.out]; rfl)).mono ?_; rintro e w5 ⟨rfl, g2⟩; have HI5 := Aside0.mk (HI4.out.later g2); have hx5 := (HI5.out.be.cell (World.block_lt_of_cell? w _ HX0.out)).trans HX0.out; have hp5 := (HI5.out.be.cell (World.block_lt_of_cell? w _ HP0.out)).trans HP0.out; have hq5 := (HI5.out.be.cell (World.block_lt_of_cell? w _ HP1.out)).trans HP1.out; clear g2))
              repeat (go_quiet (fail); try go_wp2)
              go_roundg g0
              case rel => exact ⟨i + 1, _, B, by rw [wrap64_nat1 (by have := HL.out; have := HII.out; omega)], rfl, ⟨by have := HK.out; have := HII.out; have := HGO.out; omega⟩, ⟨HI5.out⟩, ⟨by have := HB.out.1; omega, HB.out.2⟩⟩
              case measure => have := HK.out; have := HII.out; have := HGO.out; omega
            | false =>
              have HOK := Aside0.mk hok
              clear hok
              have HI1 := Aside0.mk (show HInv w wr.drew w1.heap.size 95 (lasts B) u6 B from HI.out.later (pw_below_drewN (Below.refl _ _) 1))
              have hx1 := (HI1.out.be.cell (World.block_lt_of_cell? w _ HX0.out)).trans HX0.out
              have hp1 := (HI1.out.be.cell (World.block_lt_of_cell? w _ HP0.out)).trans HP0.out
              have hq1 := (HI1.out.be.cell (World.block_lt_of_cell? w _ HP1.out)).trans HP1.out
              go_wp2
              go_region_held3 (fun w' => w'.cell? (ad0.add i) = some (.slice Ai x.length ci) ∧ w'.cell? (ad1.add (i * 2)) = some (.int .i64 lag) ∧ w'.cell? ⟨(ad1.add (i * 2)).block, (ad1.add (i * 2)).off + 1, none⟩ = some (.int .i64 st)) (first | exact ⟨hx1, hp1, hq1⟩ | exact ⟨hx3, hp3, hq3⟩ | exact ⟨hx7, hp7, hq7⟩ | exact ⟨hx8, hp8, hq8⟩ | exact ⟨hx9, hp9, hq9⟩)
                (first | (go_at_call 18; refine (pitch_Comb_Feed.long w1.heap.size Ai x.length ci lag st _ HXM.out).mono ?_; rintro e w3 ⟨rfl, g2⟩; have HI3 := Aside0.mk (HI1.out.later g2); have hx3 := (HI3.out.be.cell (World.block_lt_of_cell? w _ HX0.out)).trans HX0.out; have hp3 := (HI3.out.be.cell (World.block_lt_of_cell? w _ HP0.out)).trans HP0.out; have hq3 := (HI3.out.be.cell (World.block_lt_of_cell? w _ HP1.out)).trans HP1.out; clear g2))
              go_wp2_with (first | (go_at_call 19; refine (psalteryref18_Check.calls lag st false _ (by rw [refCheck_eq, HOK.out])).mono ?_; rintro e w4 ⟨rfl, g2⟩; have HI4 := Aside0.mk (HI3.out.later g2); have hx4 := (HI4.out.be.cell (World.block_lt_of_cell? w _ HX0.out)).trans HX0.out; have hp4 := (HI4.out.be.cell (World.block_lt_of_cell? w _ HP0.out)).trans HP0.out; have hq4 := (HI4.out.be.cell (World.block_lt_of_cell? w _ HP1.out)).trans HP1.out; clear g2) | (go_at_call 20; refine (pitch_Check.calls lag st 1 _ (by rw [check_eq, HOK.out]; rfl)).mono ?_; rintro e w5 ⟨rfl, g2⟩; have HI5 := Aside0.mk (HI4.out.later g2); have hx5 := (HI5.out.be.cell (World.block_lt_of_cell? w _ HX0.out)).trans HX0.out; have hp5 := (HI5.out.be.cell (World.block_lt_of_cell? w _ HP0.out)).trans HP0.out; have hq5 := (HI5.out.be.cell (World.block_lt_of_cell? w _ HP1.out)).trans HP1.out; clear g2))
              repeat (go_quiet (fail); try go_wp2)
              go_roundg g0
              case rel => exact ⟨i + 1, _, B, by rw [wrap64_nat1 (by have := HL.out; have := HII.out; omega)], rfl, ⟨by have := HK.out; have := HII.out; have := HGO.out; omega⟩, ⟨HI5.out⟩, ⟨by have := HB.out.1; omega, HB.out.2⟩⟩
              case measure => have := HK.out; have := HII.out; have := HGO.out; omega
          · have m0 : decide ((120 : Int) < (x.length : Int)) = false := decide_eq_false (by omega)
            have m1 : decide (120 < x.length) = false := decide_eq_false (by omega)
            have hxm2 : x.length ≤ 120 := by omega
            have HXM := Aside0.mk hxm2
            clear hxm hxm2
            cases hok : okPitch lag st with
            | false =>
              have HOK := Aside0.mk hok
              clear hok
              have HI1 := Aside0.mk (show HInv w wr.drew w1.heap.size 95 (lasts B) u6 B from HI.out.later (pw_below_drewN (Below.refl _ _) 1))
              have hx1 := (HI1.out.be.cell (World.block_lt_of_cell? w _ HX0.out)).trans HX0.out
              have hp1 := (HI1.out.be.cell (World.block_lt_of_cell? w _ HP0.out)).trans HP0.out
              have hq1 := (HI1.out.be.cell (World.block_lt_of_cell? w _ HP1.out)).trans HP1.out
              go_wp2
              go_region_held3 (fun w' => w'.cell? (ad0.add i) = some (.slice Ai x.length ci) ∧ w'.cell? (ad1.add (i * 2)) = some (.int .i64 lag) ∧ w'.cell? ⟨(ad1.add (i * 2)).block, (ad1.add (i * 2)).off + 1, none⟩ = some (.int .i64 st)) (first | exact ⟨hx1, hp1, hq1⟩ | exact ⟨hx3, hp3, hq3⟩ | exact ⟨hx7, hp7, hq7⟩ | exact ⟨hx8, hp8, hq8⟩ | exact ⟨hx9, hp9, hq9⟩)
                (first | (go_at_call 18; refine (pitch_Comb_Feed.bad w1.heap.size Ai x.length ci lag st _ HXM.out (by rw [check_eq, HOK.out]; rfl)).mono ?_; rintro e w3 ⟨rfl, g2⟩; have HI3 := Aside0.mk (HI1.out.later g2); have hx3 := (HI3.out.be.cell (World.block_lt_of_cell? w _ HX0.out)).trans HX0.out; have hp3 := (HI3.out.be.cell (World.block_lt_of_cell? w _ HP0.out)).trans HP0.out; have hq3 := (HI3.out.be.cell (World.block_lt_of_cell? w _ HP1.out)).trans HP1.out; clear g2))
              go_wp2_with (first | (go_at_call 19; refine (psalteryref18_Check.calls lag st false _ (by rw [refCheck_eq, HOK.out])).mono ?_; rintro e w4 ⟨rfl, g2⟩; have HI4 := Aside0.mk (HI3.out.later g2); have hx4 := (HI4.out.be.cell (World.block_lt_of_cell? w _ HX0.out)).trans HX0.out; have hp4 := (HI4.out.be.cell (World.block_lt_of_cell? w _ HP0.out)).trans HP0.out; have hq4 := (HI4.out.be.cell (World.block_lt_of_cell? w _ HP1.out)).trans HP1.out; clear g2) | (go_at_call 20; refine (pitch_Check.calls lag st 1 _ (by rw [check_eq, HOK.out]; rfl)).mono ?_; rintro e w5 ⟨rfl, g2⟩; have HI5 := Aside0.mk (HI4.out.later g2); have hx5 := (HI5.out.be.cell (World.block_lt_of_cell? w _ HX0.out)).trans HX0.out; have hp5 := (HI5.out.be.cell (World.block_lt_of_cell? w _ HP0.out)).trans HP0.out; have hq5 := (HI5.out.be.cell (World.block_lt_of_cell? w _ HP1.out)).trans HP1.out; clear g2))
              repeat (go_quiet (fail); try go_wp2)
              go_roundg g0
              case rel => exact ⟨i + 1, _, B, by rw [wrap64_nat1 (by have := HL.out; have := HII.out; omega)], rfl, ⟨by have := HK.out; have := HII.out; have := HGO.out; omega⟩, ⟨HI5.out⟩, ⟨by have := HB.out.1; omega, HB.out.2⟩⟩
              case measure => have := HK.out; have := HII.out; have := HGO.out; omega
            | true =>
              have HOK := Aside0.mk hok
              clear hok
              obtain ⟨O, hO⟩ : ∃ O, O = combL (lasts B ++ x) lag (wrap64 (st * 4096)) x.length := ⟨_, rfl⟩
              have HO := Aside0.mk hO
              clear hO
              have HI1 := Aside0.mk (show HInv w wr.drew w1.heap.size 95 (lasts B) u6 B from HI.out.later (pw_below_drewN (Below.refl _ _) 1))
              have hx1 := (HI1.out.be.cell (World.block_lt_of_cell? w _ HX0.out)).trans HX0.out
              have hp1 := (HI1.out.be.cell (World.block_lt_of_cell? w _ HP0.out)).trans HP0.out
              have hq1 := (HI1.out.be.cell (World.block_lt_of_cell? w _ HP1.out)).trans HP1.out
              go_wp2
              go_region_held3 (fun w' => w'.cell? (ad0.add i) = some (.slice Ai x.length ci) ∧ w'.cell? (ad1.add (i * 2)) = some (.int .i64 lag) ∧ w'.cell? ⟨(ad1.add (i * 2)).block, (ad1.add (i * 2)).off + 1, none⟩ = some (.int .i64 st)) (first | exact ⟨hx1, hp1, hq1⟩ | exact ⟨hx3, hp3, hq3⟩ | exact ⟨hx7, hp7, hq7⟩ | exact ⟨hx8, hp8, hq8⟩ | exact ⟨hx9, hp9, hq9⟩)
                (first | (go_at_call 18; refine (pitch_Comb_Feed.calls w1.heap.size Ai x.length ci lag st (lasts B) x (lasts B ++ x) O _ HI1.out.pp (HC0.out.below HI1.out.be) HXM.out HXR.out rfl (by rw [check_eq, HOK.out]; rfl) (okPitch_range HOK.out).1 (okPitch_range HOK.out).2 HO.out).mono ?_; rintro e w3 ⟨A2, c2, rfl, g0, g1, g2⟩; rw [lasts_next] at g1; have HI3 := Aside0.mk (HI1.out.feed (by decide) g1 g2); have HOW := Aside0.mk (own_lower g0 (below_size HI1.out.be)); have hx3 := (HI3.out.be.cell (World.block_lt_of_cell? w _ HX0.out)).trans HX0.out; have hp3 := (HI3.out.be.cell (World.block_lt_of_cell? w _ HP0.out)).trans HP0.out; have hq3 := (HI3.out.be.cell (World.block_lt_of_cell? w _ HP1.out)).trans HP1.out; clear g0 g1 g2))
              go_wp2_with (first | (go_at_call 19; refine (psalteryref18_Check.calls lag st true _ (by rw [refCheck_eq, HOK.out])).mono ?_; rintro e w4 ⟨rfl, g2⟩; have HI4 := Aside0.mk (HI3.out.later g2); have hx4 := (HI4.out.be.cell (World.block_lt_of_cell? w _ HX0.out)).trans HX0.out; have hp4 := (HI4.out.be.cell (World.block_lt_of_cell? w _ HP0.out)).trans HP0.out; have hq4 := (HI4.out.be.cell (World.block_lt_of_cell? w _ HP1.out)).trans HP1.out; have HOW4 := Aside0.mk (own_move HOW.out (fun b hb => g2.block b (own_lt HOW.out b hb))); clear g2) | (go_at_call 20; refine (pitch_Check.calls lag st 0 _ (by rw [check_eq, HOK.out]; rfl)).mono ?_; rintro e w5 ⟨rfl, g2⟩; have HI5 := Aside0.mk (HI4.out.later g2); have hx5 := (HI5.out.be.cell (World.block_lt_of_cell? w _ HX0.out)).trans HX0.out; have hp5 := (HI5.out.be.cell (World.block_lt_of_cell? w _ HP0.out)).trans HP0.out; have hq5 := (HI5.out.be.cell (World.block_lt_of_cell? w _ HP1.out)).trans HP1.out; have HOW5 := Aside0.mk (own_move HOW4.out (fun b hb => g2.block b (own_lt HOW4.out b hb))); clear g2))
              go_loopg [6, 12] x.length (fun kq v6 v12 wx => ∃ (k : Nat) (u : Value) (L : List Int), v12 = .int .i64 k ∧ v6 = u ∧ Aside0 (kq + k = x.length) ∧ Aside0 (HInv w wx w1.heap.size 95 (lasts (B ++ x)) u L) ∧ Aside0 (L = B ++ x.take k) ∧ Aside0 (wx.ownsRow w.heap.size 33 1 (.slice A2 x.length c2) x.length (nums .i16 O)))
              case atStart => exact ⟨0, _, B, rfl, rfl, ⟨rfl⟩, HI5, ⟨by simp⟩, HOW5⟩
              case round =>
                obtain ⟨k, u6, L, rfl, rfl, HKI, HI6, HLL, HOW6⟩ := hrel
                clear hx5 hp5 hq5 hx4 hp4 hq4 hx3 hp3 hq3 hx1 hp1 hq1
                have hz4 := (HI6.out.be.cell (World.block_lt_of_cell? w _ HX0.out)).trans HX0.out
                by_cases hk : k < x.length
                · have k0 : decide ((k : Int) < (x.length : Int)) = true := decide_eq_true (by omega)
                  have k1 : decide (k < x.length) = true := decide_eq_true hk
                  have k2 : ((k : Int) < (x.length : Int)) = True := eq_true (by omega)
                  obtain ⟨adx, eA, hcell⟩ := HC0.out.2.2 (by omega)
                  obtain ⟨y, hy⟩ : ∃ y, y = x.getD k 0 := ⟨_, rfl⟩
                  have hyr : -2147483648 ≤ y ∧ y ≤ 2147483647 := by rw [hy, List.getD_eq_getElem?_getD, List.getElem?_eq_getElem hk]; exact HXR.out _ (List.getElem_mem _)
                  have hyw : wrap64 y = y := by unfold wrap64; omega
                  have hx1 := hcell k hk
                  rw [← hy] at hx1
                  have hx2 := (HI6.out.be.cell (World.block_lt_of_cell? w _ hx1)).trans hx1
                  subst eA
                  have HY := Aside0.mk hy
                  have HKK := Aside0.mk hk
                  clear hcell hx1 hy hk hyr
                  go_wp2_with (first | (at_builtin; refine print_append_num (w0 := w) (W := wr) w.heap.size rfl (.tmp 96) (.tmp 105) 26 2 .i64 8 rfl Try.underlying26 info2 (by decide) u6 L y rfl rfl HI6.out.al HI6.out.be (below_size HI6.out.be) (by rw [HLL.out]; have h1_ := HB.out.1; have h2_ := HL.out; have h3_ := HII.out; have h4_ := HXM.out; simp; omega) ?_; intro v1 w7 g1 g2 g3 g4; have HI7 := Aside0.mk (HI6.out.grow (by decide) g1 g2 g3); have HOW7 := Aside0.mk (own_move HOW6.out (fun b hb => g3.block b (own_lt HOW6.out b hb) (fun e => by rcases own_type_ne HOW6.out HI6.out.al (by decide) with h_ | h_; rw [h_] at hb; cases hb; exact h_ (hb.trans e)))); clear g1 g2 g3 g4))
                  go_roundg (gk - 1)
                  case rel => exact ⟨k + 1, _, _, by rw [wrap64_nat1 (by have := HXM.out; have := HKK.out; omega)], rfl, ⟨by have := HKI.out; have := HKK.out; omega⟩, HI7, ⟨by rw [HLL.out, HY.out, List.append_assoc, List.take_add_one, List.getElem?_eq_getElem HKK.out, List.getD_eq_getElem?_getD, List.getElem?_eq_getElem HKK.out]; rfl⟩, HOW7⟩
                  case measure => have := HKI.out; have := HKK.out; omega
                · have k0 : decide ((k : Int) < (x.length : Int)) = false := decide_eq_false (by omega)
                  have k1 : decide (k < x.length) = false := decide_eq_false hk
                  have hLe : L = B ++ x := by rw [HLL.out, List.take_of_length_le (by omega)]
                  have HLE := Aside0.mk hLe
                  have hall : ∀ v ∈ L, -2147483648 ≤ v ∧ v ≤ 2147483647 := by rw [hLe]; intro v hv; rcases List.mem_append.1 hv with hv | hv; exact HB.out.2 v hv; exact HXR.out v hv
                  obtain ⟨kc, hkc⟩ := (Comb_is (A := B) (x := x) rfl (by have := HXM.out; omega) (by have := HB.out.1; have := HL.out; have := HII.out; have := HXM.out; omega) lag st (okPitch_range HOK.out).1 (okPitch_range HOK.out).2 (by rw [← hLe]; exact hall)).rounds
                  rw [← HO.out, ← hLe] at hkc
                  have HKC := Aside0.mk hkc
                  have HALL := Aside0.mk hall
                  have HOL := Aside0.mk (show O.length = x.length from by rw [HO.out, combL_length])
                  clear hk hLe hkc hall
                  obtain ⟨Al, cl, eL⟩ := own_slice HI6.out.al
                  subst eL
                  have HI7 := Aside0.mk (show HInv w wr.drew w1.heap.size 95 (lasts (B ++ x)) (.slice Al L.length cl) L from HI6.out.later (pw_below_drewN (Below.refl _ _) 1))
                  have HOW7 := Aside0.mk (show wr.drew.ownsRow w.heap.size 33 1 (.slice A2 x.length c2) x.length (nums .i16 O) from own_move HOW6.out (fun b hb => rfl))
                  have hx7 := (HI7.out.be.cell (World.block_lt_of_cell? w _ HX0.out)).trans HX0.out
                  have hp7 := (HI7.out.be.cell (World.block_lt_of_cell? w _ HP0.out)).trans HP0.out
                  have hq7 := (HI7.out.be.cell (World.block_lt_of_cell? w _ HP1.out)).trans HP1.out
                  go_wp2
                  clear hz4
                  go_region_held3 (fun w' => w'.cell? (ad0.add i) = some (.slice Ai x.length ci) ∧ w'.cell? (ad1.add (i * 2)) = some (.int .i64 lag) ∧ w'.cell? ⟨(ad1.add (i * 2)).block, (ad1.add (i * 2)).off + 1, none⟩ = some (.int .i64 st)) (first | exact ⟨hx1, hp1, hq1⟩ | exact ⟨hx3, hp3, hq3⟩ | exact ⟨hx7, hp7, hq7⟩ | exact ⟨hx8, hp8, hq8⟩ | exact ⟨hx9, hp9, hq9⟩)
                    (first | (go_at_call 22; refine (psalteryref18_Comb.calls kc Al cl L (x.length : Int) lag st O _ (own_C HI7.out.al) (own_cap HI7.out.al) HKC.out).mono ?_; rintro e w8 ⟨v8, rfl, g1, g2⟩; obtain ⟨A3, c3, e3⟩ := Kd.R_slice g1; subst e3; have HI8 := Aside0.mk (HI7.out.later g2); have HOW8 := Aside0.mk (own_move HOW7.out (fun b hb => g2.block b (own_lt HOW7.out b hb))); have HR8 := Aside0.mk (Kd.R_reads' g1).2; have hx8 := (HI8.out.be.cell (World.block_lt_of_cell? w _ HX0.out)).trans HX0.out; have hp8 := (HI8.out.be.cell (World.block_lt_of_cell? w _ HP0.out)).trans HP0.out; have hq8 := (HI8.out.be.cell (World.block_lt_of_cell? w _ HP1.out)).trans HP1.out; clear g1 g2) | (go_at_call 21; refine (same_call A2 A3 c2 c3 x.length O.length O _ HOL.out rfl (own_reads' HOW8.out) (own_cap HOW8.out) HR8.out.2 HR8.out.1 (by have := HOL.out; have := HXM.out; omega)).mono ?_; rintro e w9 ⟨rfl, g2⟩; have HI9 := Aside0.mk (HI8.out.later g2.below); have hx9 := (HI9.out.be.cell (World.block_lt_of_cell? w _ HX0.out)).trans HX0.out; have hp9 := (HI9.out.be.cell (World.block_lt_of_cell? w _ HP0.out)).trans HP0.out; have hq9 := (HI9.out.be.cell (World.block_lt_of_cell? w _ HP1.out)).trans HP1.out; clear g2))
                  go_wp2
                  go_roundg g0
                  case rel => exact ⟨i + 1, _, L, by rw [wrap64_nat1 (by have := HL.out; have := HII.out; omega)], rfl, ⟨by have := HK.out; have := HII.out; have := HGO.out; omega⟩, ⟨by have h_ := HI9.out; rw [← HLE.out] at h_; exact h_⟩, ⟨by rw [HLE.out, List.length_append]; have := HB.out.1; have := HXM.out; omega, HALL.out⟩⟩
                  case measure => have := HK.out; have := HII.out; have := HGO.out; omega
      · have q0 : ((i : Int) < (n0 : Int)) = True := eq_true (by omega)
        have b0 : decide ((i : Int) < (n0 : Int)) = true := decide_eq_true (by omega)
        have b1 : decide (i < n0) = true := decide_eq_true hi
        have b2 : decide ((i : Int) < (n1 : Int)) = false := decide_eq_false (by omega)
        have b3 : decide (i < n1) = false := decide_eq_false hi1
        clear hi hi1
        go_wp2
        repeat (go_quiet (fail); try go_wp2)
        go_ret
        exact ⟨rfl, HI.out.be⟩
    · have b0 : decide ((i : Int) < (n0 : Int)) = false := decide_eq_false (by omega)
      have b1 : decide (i < n0) = false := decide_eq_false hi
      clear hi
      go_wp2
      repeat (go_quiet (fail); try go_wp2)
      go_ret
      exact ⟨rfl, HI.out.be⟩
theorem psalterylaw18_PitchCombs.calls (A0 A1 : Option Addr) (c0 n0 c1 n1 : Nat) (w : World)
    (hrow : ∀ i : Nat, i < n0 → ∃ ad A c x, A0 = some ad ∧ w.cell? (ad.add i) = some (.slice A x.length c) ∧ ReadsInt w .i32 A x.length x ∧ ∀ v ∈ x, -2147483648 ≤ v ∧ v ≤ 2147483647)
    (hps : ∀ i : Nat, i < n1 → ∃ ad lag st, A1 = some ad ∧ w.cell? (ad.add (i * 2)) = some (.int .i64 lag) ∧ w.cell? ⟨(ad.add (i * 2)).block, (ad.add (i * 2)).off + 1, none⟩ = some (.int .i64 st)) :
    Calls Try.prog 4 #[.slice A0 n0 c0, .slice A1 n1 c1] w fun e w' => e = .returned (.bool true) ∧ Below w.heap.size w w' := by
  by_cases hl : 8 < n0
  · exact psalterylaw18_PitchCombs.long A0 A1 c0 n0 c1 n1 w hl
  · exact psalterylaw18_PitchCombs.walk A0 A1 c0 n0 c1 n1 w (by omega) hrow hps
end Go.Proofs.Ytblehkoonajofaa.PPitch
