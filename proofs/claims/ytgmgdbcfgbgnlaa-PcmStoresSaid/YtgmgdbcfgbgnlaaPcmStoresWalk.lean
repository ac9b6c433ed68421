/- The law PcmStores walked: any calls to a store tell what the document's store tells. -/
import Derived.Test.YtgmgdbcfgbgnlaaPcmRefStore
import Derived.Test.YtgmgdbcfgbgnlaaPcmLib
import Derived.Test.YtgmgdbcfgbgnlaaSameLibPcm
import Derived.Deep.RegionHeld3
import Derived.Deep.LoopGhost
import Derived.WalkSpells
import Derived.Outline
namespace Go.Proofs.Ytgmgdbcfgbgnlaa.PPcm
open Go.RowKit Go.Proofs.YtgmgdbcfgbgnlaaW.PrintWords Go.Proofs.YtgmgdbcfgbgnlaaW.PrintLast Go.Proofs.YtgmgdbcfgbgnlaaW.PrintMore
attribute [local go_sem] max2_int min2_int max_two min_two max_three min_three max_four min_four   -- for this text's walks alone
set_option linter.unusedVariables false
set_option linter.unusedSimpArgs false
/-- Both stores: what each holds. -/
structure Inv2 (W0 w : World) (p q : Nat) (most : Int) (vs vr : Value) (st sr : List Int) : Prop where
  sp : w.heap[p]? = some (.cells #[.int .i64 most, vs] 84 (0, 0))
  sq : w.heap[q]? = some (.cells #[.int .i64 most, vr] 39 (0, 0))
  os : w.ownsRow W0.heap.size 33 1 vs st.length (nums .i16 st)
  or : w.ownsRow W0.heap.size 33 1 vr sr.length (nums .i16 sr)
  ne : ∀ b, vr.ownBlock = some b → vs.ownBlock ≠ some b
  be : Below W0.heap.size W0 w
  gp : W0.heap.size ≤ p
  gq : W0.heap.size ≤ q
namespace Inv2
variable {W0 w w' : World} {p q : Nat} {most : Int} {vs vr : Value} {st sr : List Int}
theorem drewN (h : Inv2 W0 w p q most vs vr st sr) (n : Nat) : Inv2 W0 (w.drewN n) p q most vs vr st sr :=
  ⟨h.sp, h.sq, own_move h.os fun _ _ => rfl, own_move h.or fun _ _ => rfl, h.ne, pw_below_drewN h.be n, h.gp, h.gq⟩
theorem pq (h : Inv2 W0 w p q most vs vr st sr) : p ≠ q := by
  intro e; subst e; have h1 := h.sp; rw [h.sq] at h1; simp at h1
theorem pcm (h : Inv2 W0 w p q most vs vr st sr) {vs' : Value} {st' : List Int} (h1 : w'.heap[p]? = some (.cells #[.int .i64 most, vs'] 84 (0, 0))) (h2 : w'.ownsRow W0.heap.size 33 1 vs' st'.length (nums .i16 st')) (h3 : vs'.ownBlock = vs.ownBlock ∨ ∃ b, vs'.ownBlock = some b ∧ w.heap.size ≤ b) (h4 : Chg w w' p vs.ownBlock) : Inv2 W0 w' p q most vs' vr st' sr := by
  have hq := own_ne h.os h.sq (by decide)
  refine ⟨h1, (h4.block q (blk_lt h.sq) h.pq.symm hq).trans h.sq, h2, own_move h.or fun b hb => h4.block b (own_lt h.or b hb) ?_ ?_, ?_, h4.below h.be (below_size h.be) h.gp (own_base h.os), h.gp, h.gq⟩
  · intro e; subst e; exact own_ne h.or h.sp (by decide) hb.symm
  · intro e; exact h.ne b hb e.symm
  · intro b hb e
    rcases h3 with h3 | ⟨b', h3, h5⟩
    · exact h.ne b hb (h3 ▸ e)
    · have h6 := own_lt h.or b hb
      rw [e] at h3; injection h3 with h3; omega
theorem ref (h : Inv2 W0 w p q most vs vr st sr) {vr' : Value} {sr' : List Int} (h1 : w'.heap[q]? = some (.cells #[.int .i64 most, vr'] 39 (0, 0))) (h2 : w'.ownsRow w.heap.size 33 1 vr' sr'.length (nums .i16 sr')) (h4 : Chg w w' q none) : Inv2 W0 w' p q most vs vr' st sr' := by
  refine ⟨(h4.block p (blk_lt h.sp) h.pq (by simp)).trans h.sp, h1, own_move h.os fun b hb => h4.block b (own_lt h.os b hb) ?_ (by simp), own_lower h2 (below_size h.be), ?_, h4.below h.be (below_size h.be) h.gq (by simp), h.gp, h.gq⟩
  · intro e; subst e; exact own_ne h.os h.sq (by decide) hb.symm
  · intro b hb e
    have h5 := own_base h2 b hb
    have h6 := own_lt h.os b e
    omega
theorem pcmClear (h : Inv2 W0 w p q most vs vr st sr) (h1 : w'.heap[p]? = some (.cells #[.int .i64 most, .slice none 0 0] 84 (0, 0))) (h4 : Chg w w' p none) : Inv2 W0 w' p q most (.slice none 0 0) vr [] sr := by
  refine ⟨h1, (h4.block q (blk_lt h.sq) h.pq.symm (by simp)).trans h.sq, own_nil _ _ _ _, own_move h.or fun b hb => h4.block b (own_lt h.or b hb) ?_ (by simp), fun b hb => by simp [Value.ownBlock], h4.below h.be (below_size h.be) h.gp (by simp), h.gp, h.gq⟩
  intro e; subst e; exact own_ne h.or h.sp (by decide) hb.symm
/-- Both stores emptied. -/
theorem refClear (h : Inv2 W0 w p q most vs vr st sr) : Inv2 W0 (w.setCell ⟨q, 1, none⟩ (.slice none 0 0)) p q most vs (.slice none 0 0) st [] := by
  have h4 : Chg w (w.setCell ⟨q, 1, none⟩ (.slice none 0 0)) q none := (Chg.drew w 0 q none).set 1 _
  exact h.ref (blk_set h.sq 1 _) (own_nil _ _ _ _) h4
end Inv2
set_option maxHeartbeats 8000000 in
set_option maxRecDepth 100000 in
theorem psalterylaw10_PcmStores.walk (most : Int) (A0 : Option Addr) (c0 : Nat) (n0 : Nat) (w : World) (hl : n0 ≤ 60) (hm0 : 0 ≤ most) (hm1 : most ≤ 4096)
    (hrow : ∀ i : Nat, i < n0 → ∃ ad k m A c x, A0 = some ad ∧ w.cell? (ad.add (i * 3)) = some (.int .i64 k) ∧ w.cell? ⟨(ad.add (i * 3)).block, (ad.add (i * 3)).off + 1, none⟩ = some (.int .i64 m) ∧ w.cell? ⟨(ad.add (i * 3)).block, (ad.add (i * 3)).off + 2, none⟩ = some (.slice A x.length c) ∧ Kd.C (Kd.int .i16) w A x.length x) :
    Calls Try.prog 4 #[.int .i64 most, .slice A0 n0 c0] w fun e w' => e = .returned (.bool true) ∧ Below w.heap.size w w' := by
  have HB := Aside0.mk (Below.refl w.heap.size w)
  have HR := Aside0.mk hrow
  have HL := Aside0.mk (show n0 ≤ 60 ∧ 0 ≤ most ∧ most ≤ 4096 from ⟨hl, hm0, hm1⟩)
  have t0 : decide ((60 : Int) < (n0 : Int)) = false := decide_eq_false (by omega)
  have t1 : decide (60 < n0) = false := decide_eq_false (by omega)
  have t2 : decide (most < 0) = false := decide_eq_false (by omega)
  have t3 : decide (4096 < most) = false := decide_eq_false (by omega)
  clear hl hrow hm0 hm1
  go_enter Try.func4, Try.ntmps4
  go_wp2_with (first | (go_at_call 14; refine (psalterylaw10_alive.calls 20 true _ (PcmLib.alive_eq (Nat.le_refl _))).mono ?_; rintro e w1 ⟨rfl, hb⟩; have n0_ := Aside0.mk (below_step HB.out hb); clear HB hb; have HB := n0_; clear n0_) | (go_at_call 15; refine (pcm_NewStore.calls most HL.out.2.1 HL.out.2.2 _).mono ?_; rintro e wN ⟨pS, rfl, hst, hge, hb⟩; have HI := Aside0.mk (show Inv2 w (wN.alloc (.cells #[.int .i64 most, .slice none 0 0] 39)) pS wN.heap.size most (.slice none 0 0) (.slice none 0 0) [] [] from ⟨((below_alloc (Below.refl wN.heap.size wN) _).block pS (blk_lt hst)).trans hst, blk_new _ _, own_nil _ _ _ _, own_nil _ _ _ _, fun b h => by simp [Value.ownBlock] at h, below_alloc (below_step HB.out hb) _, Nat.le_trans (below_size HB.out) hge, below_size (below_step HB.out hb)⟩); clear HB hb hst hge))
  repeat (go_quiet (fail); try go_wp2)
  go_loopg [8] n0 (fun kq v8 w' => ∃ (vs vr : Value) (st : List Int) (i : Nat), v8 = .int .i64 i ∧ Aside0 (Inv2 w w' pS wN.heap.size most vs vr st st) ∧ Aside0 (kq + i = n0 ∧ (st.length : Int) ≤ most))
  case atStart => exact ⟨_, _, [], 0, rfl, HI, ⟨by omega, by have := HL.out; simpa using this.2.1⟩⟩
  case round =>
    clear HI
    obtain ⟨vs, vr, st, i, rfl, HI, HA⟩ := hrel
    by_cases hi : i < n0
    · obtain ⟨ad0, k, m, Ai, ci, x, e0, hx0, hx1, hx2, hC⟩ := HR.out i hi
      have q0 : ((i : Int) < (n0 : Int)) = True := eq_true (by omega)
      have b0 : decide ((i : Int) < (n0 : Int)) = true := decide_eq_true (by omega)
      have b1 : decide (i < n0) = true := decide_eq_true (by omega)
      subst e0
      have hy0 := (HI.out.be.cell (World.block_lt_of_cell? w _ hx0)).trans hx0
      have hy1 := (HI.out.be.cell (World.block_lt_of_cell? w _ hx1)).trans hx1
      have hy2 := (HI.out.be.cell (World.block_lt_of_cell? w _ hx2)).trans hx2
      have HX0 := Aside0.mk hx0
      have HX1 := Aside0.mk hx1
      have HX2 := Aside0.mk hx2
      have HC0 := Aside0.mk hC
      have HII := Aside0.mk hi
      clear hx0 hx1 hx2 hC hi
      by_cases hxl : 5000 < x.length
      · have l0 : decide ((5000 : Int) < (x.length : Int)) = true := decide_eq_true (by omega)
        have l1 : decide (5000 < x.length) = true := decide_eq_true (by omega)
        clear hxl
        go_wp2
        repeat (go_quiet (fail); try go_wp2)
        go_ret
        exact ⟨rfl, HI.out.be⟩
      · have l0 : decide ((5000 : Int) < (x.length : Int)) = false := decide_eq_false (by omega)
        have l1 : decide (5000 < x.length) = false := decide_eq_false (by omega)
        have HXL := Aside0.mk hxl
        clear hxl
        by_cases hk0 : k = 0
        · subst hk0
          have HI1 := Aside0.mk (show Inv2 w wr.drew pS wN.heap.size most vs vr st st from HI.out.drewN 1)
          have hz1 := (HI1.out.be.cell (World.block_lt_of_cell? w _ HX2.out)).trans HX2.out; have hv1 := (HI1.out.be.cell (World.block_lt_of_cell? w _ HX1.out)).trans HX1.out
          by_cases hf : (x.length : Int) > most - st.length
          · have HF := Aside0.mk hf
            clear hf
            go_wp2
            go_region_held3 (fun w' => w'.cell? ⟨(ad0.add (i * 3)).block, (ad0.add (i * 3)).off + 2, none⟩ = some (.slice Ai x.length ci) ∧ w'.cell? ⟨(ad0.add (i * 3)).block, (ad0.add (i * 3)).off + 1, none⟩ = some (.int .i64 m)) (first | exact ⟨hz1, hv1⟩ | exact ⟨hz3, hv3⟩ | exact ⟨hz4, hv4⟩ | exact ⟨hz5, hv5⟩)
              (first | (go_at_call 16; refine (pcm_Put.full w.heap.size pS most st x vs Ai ci _ (below_size HI1.out.be) HI1.out.sp HI1.out.os (Kd.C_below HC0.out HI1.out.be) (by have := HF.out; omega) HL.out.2.1 HL.out.2.2 HA.out.2).mono ?_; rintro e w3 ⟨rfl, q3, hq3⟩; have HI3 := Aside0.mk (show Inv2 w w3 pS wN.heap.size most vs vr st st from hq3 ▸ HI1.out.drewN q3); have hz3 := (HI3.out.be.cell (World.block_lt_of_cell? w _ HX2.out)).trans HX2.out; have hv3 := (HI3.out.be.cell (World.block_lt_of_cell? w _ HX1.out)).trans HX1.out; clear hq3) | (go_at_call 20; refine (ref_Put.full wN.heap.size most st x vr Ai ci w.heap.size _ HI3.out.sq HI3.out.or (by have := HF.out; omega) (by have h1_ := HA.out; have h2_ := HL.out; omega) (by have := HXL.out; omega)).mono ?_; rintro e w4 ⟨rfl, q4, hq4⟩; have HI4 := Aside0.mk (show Inv2 w w4 pS wN.heap.size most vs vr st st from hq4 ▸ HI3.out.drewN q4); have hz4 := (HI4.out.be.cell (World.block_lt_of_cell? w _ HX2.out)).trans HX2.out; have hv4 := (HI4.out.be.cell (World.block_lt_of_cell? w _ HX1.out)).trans HX1.out; clear hq4))
            obtain ⟨Av, cv, eV⟩ := own_slice HI4.out.os
            subst eV
            obtain ⟨Ar, cr, eR⟩ := own_slice HI4.out.or
            subst eR
            have c7 : World.cell? w4 ⟨wN.heap.size, 1, none⟩ = some (.slice Ar (List.length st) cr) := by have h_ := HI4.out.sq; simp [World.cell?, h_]
            go_wp2
            go_quiet ((go_at_call 17; exact Calls.quiet_of (pcm_Len.calls pS _ Av (List.length st) cv 84 (0, 0) _ HI4.out.sp)))
            go_wp2
            go_roundg (gk - 1)
            case measure => have := HA.out; have := HII.out; omega
            case rel => exact ⟨_, _, st, i + 1, by rw [wrap64_nat1 (by have h1_ := HL.out; have h2_ := HII.out; omega)], ⟨HI4.out.drewN _⟩, ⟨by have := HA.out; have := HII.out; omega, HA.out.2⟩⟩
          · have HF := Aside0.mk hf
            clear hf
            obtain ⟨ST, hST⟩ : ∃ ST, ST = st ++ x := ⟨_, rfl⟩
            have HST := Aside0.mk hST
            clear hST
            go_wp2
            go_region_held3 (fun w' => w'.cell? ⟨(ad0.add (i * 3)).block, (ad0.add (i * 3)).off + 2, none⟩ = some (.slice Ai x.length ci) ∧ w'.cell? ⟨(ad0.add (i * 3)).block, (ad0.add (i * 3)).off + 1, none⟩ = some (.int .i64 m)) (first | exact ⟨hz1, hv1⟩ | exact ⟨hz3, hv3⟩ | exact ⟨hz4, hv4⟩ | exact ⟨hz5, hv5⟩)
              (first | (go_at_call 16; refine (pcm_Put.to w.heap.size pS most st x ST HST.out vs Ai ci _ (below_size HI1.out.be) HI1.out.sp HI1.out.os (Kd.C_below HC0.out HI1.out.be) (by have := HF.out; omega) HL.out.2.1 HL.out.2.2 HA.out.2).mono ?_; rintro e w3 ⟨rfl, vs3, g1, g2, g3, g4⟩; have HI3 := Aside0.mk (HI1.out.pcm g1 g2 g3 g4); have hz3 := (HI3.out.be.cell (World.block_lt_of_cell? w _ HX2.out)).trans HX2.out; have hv3 := (HI3.out.be.cell (World.block_lt_of_cell? w _ HX1.out)).trans HX1.out; clear g1 g2 g3 g4) | (go_at_call 20; refine (ref_Put.put wN.heap.size most st x ST HST.out vr Ai ci w.heap.size _ (below_size HI3.out.be) HI3.out.sq HI3.out.or (Kd.C_below HC0.out HI3.out.be) (by have := HF.out; omega) (by have h1_ := HA.out; have h2_ := HL.out; omega) (by have := HXL.out; omega)).mono ?_; rintro e w4 ⟨rfl, vr4, g1, g2, g4⟩; have HI4 := Aside0.mk (HI3.out.ref g1 g2 g4); have hz4 := (HI4.out.be.cell (World.block_lt_of_cell? w _ HX2.out)).trans HX2.out; have hv4 := (HI4.out.be.cell (World.block_lt_of_cell? w _ HX1.out)).trans HX1.out; clear g1 g2 g4))
            obtain ⟨Av, cv, eV⟩ := own_slice HI4.out.os
            subst eV
            obtain ⟨Ar, cr, eR⟩ := own_slice HI4.out.or
            subst eR
            have c7 : World.cell? w4 ⟨wN.heap.size, 1, none⟩ = some (.slice Ar (List.length ST) cr) := by have h_ := HI4.out.sq; simp [World.cell?, h_]
            go_wp2
            go_quiet ((go_at_call 17; exact Calls.quiet_of (pcm_Len.calls pS _ Av (List.length ST) cv 84 (0, 0) _ HI4.out.sp)))
            go_wp2
            go_roundg (gk - 1)
            case measure => have := HA.out; have := HII.out; omega
            case rel => exact ⟨_, _, ST, i + 1, by rw [wrap64_nat1 (by have h1_ := HL.out; have h2_ := HII.out; omega)], ⟨HI4.out.drewN _⟩, ⟨by have := HA.out; have := HII.out; omega, by have h1_ := HF.out; have h2_ := congrArg List.length HST.out; rw [List.length_append] at h2_; omega⟩⟩
        · by_cases hk1 : k = 1
          · subst hk1
            have HI1 := Aside0.mk (show Inv2 w wr.drew pS wN.heap.size most vs vr st st from HI.out.drewN 1)
            have hz1 := (HI1.out.be.cell (World.block_lt_of_cell? w _ HX2.out)).trans HX2.out; have hv1 := (HI1.out.be.cell (World.block_lt_of_cell? w _ HX1.out)).trans HX1.out
            obtain ⟨TL, hTL⟩ : ∃ TL, TL = takeL m st := ⟨_, rfl⟩
            obtain ⟨ST, hST⟩ : ∃ ST, ST = st.drop (tk m) := ⟨_, rfl⟩
            have HTL := Aside0.mk hTL
            have HST := Aside0.mk hST
            clear hTL hST
            go_wp2
            go_region_held3 (fun w' => w'.cell? ⟨(ad0.add (i * 3)).block, (ad0.add (i * 3)).off + 2, none⟩ = some (.slice Ai x.length ci) ∧ w'.cell? ⟨(ad0.add (i * 3)).block, (ad0.add (i * 3)).off + 1, none⟩ = some (.int .i64 m)) (first | exact ⟨hz1, hv1⟩ | exact ⟨hz3, hv3⟩ | exact ⟨hz4, hv4⟩ | exact ⟨hz5, hv5⟩)
              (first | (go_at_call 18; refine (pcm_Take.to w.heap.size pS m most st TL ST HTL.out HST.out _ _ HI1.out.sp HI1.out.os).mono ?_; rintro e w3 ⟨Ax, cx, vs3, rfl, hox, g1, g2, g3, g4⟩; have HI3 := Aside0.mk (HI1.out.pcm g1 g2 (.inl g3) g4); have HOX := Aside0.mk hox; have hz3 := (HI3.out.be.cell (World.block_lt_of_cell? w _ HX2.out)).trans HX2.out; have hv3 := (HI3.out.be.cell (World.block_lt_of_cell? w _ HX1.out)).trans HX1.out; clear hox g1 g2 g3 g4) | (go_at_call 21; refine (ref_Take.take wN.heap.size m most st TL ST HTL.out HST.out _ w.heap.size _ HI3.out.sq HI3.out.or (by have h1_ := HA.out; have h2_ := HL.out; omega)).mono ?_; rintro e w4 ⟨Ay, cy, vr4, rfl, hoy, g1, g2, g4⟩; have HI4 := Aside0.mk (HI3.out.ref g1 g2 g4); have HOX4 := Aside0.mk (own_move HOX.out (fun b hb => g4.block b (own_lt HOX.out b hb) (by intro e_; subst e_; exact own_ne HOX.out HI3.out.sq (by decide) hb.symm) (by simp))); have HOY := Aside0.mk hoy; have hz4 := (HI4.out.be.cell (World.block_lt_of_cell? w _ HX2.out)).trans HX2.out; have hv4 := (HI4.out.be.cell (World.block_lt_of_cell? w _ HX1.out)).trans HX1.out; clear hoy g1 g2 g4) | (go_at_call 19; refine (psalteryref04_Same.calls (TL.length + 1) Ax cx TL Ay cy TL true _ (own_C HOX4.out) (own_cap HOX4.out) (own_C HOY.out) (own_cap HOY.out) (Go.Proofs.Ytgmgdbcfgbgnlaa.SameLibPcm.Same_eq (by have h1_ := congrArg List.length HTL.out; rw [takeL_length] at h1_; have h2_ := tk_le m; omega) (Nat.lt_succ_self _))).mono ?_; rintro e w5 ⟨rfl, hd5⟩; obtain ⟨q5, hq5⟩ := hd5.out; have HI5 := Aside0.mk (show Inv2 w w5 pS wN.heap.size most vs3 vr4 ST ST from hq5 ▸ HI4.out.drewN q5); have hz5 := (HI5.out.be.cell (World.block_lt_of_cell? w _ HX2.out)).trans HX2.out; have hv5 := (HI5.out.be.cell (World.block_lt_of_cell? w _ HX1.out)).trans HX1.out; clear hd5 hq5))
            obtain ⟨Av, cv, eV⟩ := own_slice HI5.out.os
            subst eV
            obtain ⟨Ar, cr, eR⟩ := own_slice HI5.out.or
            subst eR
            have c7 : World.cell? w5 ⟨wN.heap.size, 1, none⟩ = some (.slice Ar (List.length ST) cr) := by have h_ := HI5.out.sq; simp [World.cell?, h_]
            go_wp2
            go_quiet ((go_at_call 17; exact Calls.quiet_of (pcm_Len.calls pS _ Av (List.length ST) cv 84 (0, 0) _ HI5.out.sp)))
            go_wp2
            go_roundg (gk - 1)
            case measure => have := HA.out; have := HII.out; omega
            case rel => exact ⟨_, _, ST, i + 1, by rw [wrap64_nat1 (by have h1_ := HL.out; have h2_ := HII.out; omega)], ⟨HI5.out.drewN _⟩, ⟨by have := HA.out; have := HII.out; omega, by have h1_ := HA.out.2; have h2_ := congrArg List.length HST.out; rw [List.length_drop] at h2_; omega⟩⟩
          · by_cases hk2 : k = 2
            · subst hk2
              go_wp2_with ((go_at_call 22; refine (pcm_Clear.calls pS _ _ 84 (0, 0) _ HI.out.sp rfl).mono ?_; rintro e w3 ⟨rfl, g1, g4⟩; have HI3 := Aside0.mk (HI.out.pcmClear g1 g4); obtain ⟨Ar, cr, eR⟩ := own_slice HI3.out.or; subst eR; have c7 : World.cell? w3 ⟨wN.heap.size, 1, none⟩ = some (.slice Ar st.length cr) := (by have h_ := HI3.out.sq; simp [World.cell?, h_]); have d7 : World.frozen? w3 ⟨wN.heap.size, 1, none⟩ = false := blk_frozen HI3.out.sq 1; clear g1 g4))
              have HI4 := Aside0.mk HI3.out.refClear
              clear c7 d7
              have c7 : World.cell? (w3.setCell ⟨wN.heap.size, 1, none⟩ (.slice none 0 0)) ⟨wN.heap.size, 1, none⟩ = some (.slice none 0 0) := by have h_ := HI4.out.sq; simp [World.cell?, h_]
              go_quiet ((go_at_call 17; exact Calls.quiet_of (pcm_Len.calls pS _ none 0 0 84 (0, 0) _ HI4.out.sp)))
              go_wp2
              go_roundg (gk - 1)
              case measure => have := HA.out; have := HII.out; omega
              case rel => exact ⟨_, _, [], i + 1, by rw [wrap64_nat1 (by have h1_ := HL.out; have h2_ := HII.out; omega)], ⟨HI4.out.drewN _⟩, ⟨by have := HA.out; have := HII.out; omega, by have := HL.out; simpa using this.2.1⟩⟩
            · have k0 : (k == (0 : Int)) = false := by simpa using hk0
              have k1 : (k == (1 : Int)) = false := by simpa using hk1
              have k2 : (k == (2 : Int)) = false := by simpa using hk2
              clear hk0 hk1 hk2
              obtain ⟨Av, cv, eV⟩ := own_slice HI.out.os
              subst eV
              obtain ⟨Ar, cr, eR⟩ := own_slice HI.out.or
              subst eR
              have c7 : World.cell? wr ⟨wN.heap.size, 1, none⟩ = some (.slice Ar (List.length st) cr) := by have h_ := HI.out.sq; simp [World.cell?, h_]
              go_wp2
              go_quiet ((go_at_call 17; exact Calls.quiet_of (pcm_Len.calls pS _ Av (List.length st) cv 84 (0, 0) _ HI.out.sp)))
              go_wp2
              go_roundg (gk - 1)
              case measure => have := HA.out; have := HII.out; omega
              case rel => exact ⟨_, _, st, i + 1, by rw [wrap64_nat1 (by have h1_ := HL.out; have h2_ := HII.out; omega)], ⟨HI.out.drewN _⟩, ⟨by have := HA.out; have := HII.out; omega, HA.out.2⟩⟩
    · have b0 : decide ((i : Int) < (n0 : Int)) = false := decide_eq_false (by omega)
      have b1 : decide (i < n0) = false := decide_eq_false (by omega)
      clear hi
      go_wp2_with (first | (go_at_call 22; refine (pcm_Clear.nil _).mono ?_; rintro e w3 ⟨rfl, q3, hq3⟩; have HQ3 := Aside0.mk hq3; clear hq3) | (go_at_call 16; refine (pcm_Put.nil _ _).mono ?_; rintro e w4 ⟨rfl, q4, hq4⟩; have HQ4 := Aside0.mk hq4; clear hq4) | (go_at_call 18; refine (pcm_Take.nil _ _).mono ?_; rintro e w5 ⟨rfl, q5, hq5⟩; have HQ5 := Aside0.mk hq5; clear hq5) | (go_at_call 17; refine (pcm_Len.nil _).mono ?_; rintro e w6 ⟨rfl, q6, hq6⟩; have HQ6 := Aside0.mk hq6; clear hq6))
      
      go_ret
      exact ⟨rfl, by rw [HQ6.out, HQ5.out, HQ4.out, HQ3.out]; exact pw_below_drewN (pw_below_drewN (pw_below_drewN (pw_below_drewN HI.out.be _) _) _) _⟩
theorem pcm_NewStore.bad (a0 : Int) (h : a0 < 0 ∨ 4096 < a0) (w : World) :
    Calls Try.prog 15 #[.int .i64 a0] w fun e w' => e = .returned (.tuple #[.pointer none, .int .i64 1]) ∧ Below w.heap.size w w' := by
  by_cases h0 : a0 < 0
  · have t0 : decide (a0 < 0) = true := decide_eq_true h0
    clear h h0
    go_enter Try.func15, Try.ntmps15
    go_wp2
    repeat (go_quiet (fail); try go_wp2)
    go_ret2
    exact ⟨rfl, by first | exact Below.refl _ _ | exact pw_below_drewN (Below.refl _ _) _⟩
  · have t0 : decide (a0 < 0) = false := decide_eq_false h0
    have t1 : decide (4096 < a0) = true := decide_eq_true (by omega)
    clear h h0
    go_enter Try.func15, Try.ntmps15
    go_wp2
    repeat (go_quiet (fail); try go_wp2)
    go_ret2
    exact ⟨rfl, by first | exact Below.refl _ _ | exact pw_below_drewN (Below.refl _ _) _⟩
theorem psalterylaw10_PcmStores.long (most : Int) (A0 : Option Addr) (c0 : Nat) (n0 : Nat) (w : World) (hl : 60 < n0) :
    Calls Try.prog 4 #[.int .i64 most, .slice A0 n0 c0] w fun e w' => e = .returned (.bool true) ∧ Below w.heap.size w w' := by
  have HB := Aside0.mk (Below.refl w.heap.size w)
  have t0 : decide ((60 : Int) < (n0 : Int)) = true := decide_eq_true (by omega)
  have t1 : decide (60 < n0) = true := decide_eq_true (by omega)
  clear hl
  go_enter Try.func4, Try.ntmps4
  go_wp2_with (first | (go_at_call 14; refine (psalterylaw10_alive.calls 20 true _ (PcmLib.alive_eq (Nat.le_refl _))).mono ?_; rintro e w1 ⟨rfl, hb⟩; have n0_ := Aside0.mk (below_step HB.out hb); clear HB hb; have HB := n0_; clear n0_))
  go_ret
  exact ⟨rfl, HB.out⟩
theorem psalterylaw10_PcmStores.bad (most : Int) (A0 : Option Addr) (c0 : Nat) (n0 : Nat) (w : World) (hl : n0 ≤ 60) (hm : most < 0 ∨ 4096 < most) :
    Calls Try.prog 4 #[.int .i64 most, .slice A0 n0 c0] w fun e w' => e = .returned (.bool true) ∧ Below w.heap.size w w' := by
  have HB := Aside0.mk (Below.refl w.heap.size w)
  have HM := Aside0.mk hm
  have t0 : decide ((60 : Int) < (n0 : Int)) = false := decide_eq_false (by omega)
  have t1 : decide (60 < n0) = false := decide_eq_false (by omega)
  by_cases h0 : most < 0
  · have t2 : decide (most < 0) = true := decide_eq_true (by omega)
    clear hl hm h0
    go_enter Try.func4, Try.ntmps4
    go_wp2_with (first | (go_at_call 14; refine (psalterylaw10_alive.calls 20 true _ (PcmLib.alive_eq (Nat.le_refl _))).mono ?_; rintro e w1 ⟨rfl, hb⟩; have n0_ := Aside0.mk (below_step HB.out hb); clear HB hb; have HB := n0_; clear n0_) | (go_at_call 15; refine (pcm_NewStore.bad most HM.out _).mono ?_; rintro e wN ⟨rfl, hb⟩; have n0_ := Aside0.mk (below_step HB.out hb); clear HB hb; have HB := n0_; clear n0_))
    repeat (go_quiet (fail); try go_wp2)
    go_ret
    exact ⟨rfl, HB.out⟩
  · have t2 : decide (most < 0) = false := decide_eq_false (by omega)
    have t3 : decide (4096 < most) = true := decide_eq_true (by omega)
    clear hl hm h0
    go_enter Try.func4, Try.ntmps4
    go_wp2_with (first | (go_at_call 14; refine (psalterylaw10_alive.calls 20 true _ (PcmLib.alive_eq (Nat.le_refl _))).mono ?_; rintro e w1 ⟨rfl, hb⟩; have n0_ := Aside0.mk (below_step HB.out hb); clear HB hb; have HB := n0_; clear n0_) | (go_at_call 15; refine (pcm_NewStore.bad most HM.out _).mono ?_; rintro e wN ⟨rfl, hb⟩; have n0_ := Aside0.mk (below_step HB.out hb); clear HB hb; have HB := n0_; clear n0_))
    repeat (go_quiet (fail); try go_wp2)
    go_ret
    exact ⟨rfl, HB.out⟩
theorem psalterylaw10_PcmStores.calls (most : Int) (A0 : Option Addr) (c0 : Nat) (n0 : Nat) (w : World)
    (hrow : ∀ i : Nat, i < n0 → ∃ ad k m A c x, A0 = some ad ∧ w.cell? (ad.add (i * 3)) = some (.int .i64 k) ∧ w.cell? ⟨(ad.add (i * 3)).block, (ad.add (i * 3)).off + 1, none⟩ = some (.int .i64 m) ∧ w.cell? ⟨(ad.add (i * 3)).block, (ad.add (i * 3)).off + 2, none⟩ = some (.slice A x.length c) ∧ Kd.C (Kd.int .i16) w A x.length x) :
    Calls Try.prog 4 #[.int .i64 most, .slice A0 n0 c0] w fun e w' => e = .returned (.bool true) ∧ Below w.heap.size w w' := by
  by_cases hl : 60 < n0
  · exact psalterylaw10_PcmStores.long most A0 c0 n0 w hl
  · by_cases hm : most < 0 ∨ 4096 < most
    · exact psalterylaw10_PcmStores.bad most A0 c0 n0 w (by omega) hm
    · exact psalterylaw10_PcmStores.walk most A0 c0 n0 w (by omega) (by omega) (by omega) hrow
end Go.Proofs.Ytgmgdbcfgbgnlaa.PPcm
