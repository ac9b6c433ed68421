/- Shape: the walk of the law ShapeFinds. -/
import Derived.Test.YtblehkoonajofaaShapeAlive
namespace Go.Proofs.Ytblehkoonajofaa.PShape
open Go.RowKit Go.Proofs.YtblehkoonajofaaW.PrintWords Go.Proofs.YtblehkoonajofaaW.PrintLast Go.Proofs.YtblehkoonajofaaW.PrintMore Go.Proofs.Ytblehkoonajofaa.ShapeBand
set_option linter.unusedVariables false
set_option linter.unusedSimpArgs false
theorem ref_find_any (x : List Int) (hx : Lines x) (hl : x.length ≤ 300) (he : edE x ≠ []) (A0 : Option Addr) (c0 : Nat) (w : World) (hr0 : Kd.C (Kd.int .i32) w A0 x.length x) (hc0 : x.length ≤ c0) :
    Calls Try.prog 27 #[.slice A0 x.length c0] w fun e w' => e = .returned (shapeV (bestUpto (dD x) 16) (restL (dD x) (bestUpto (dD x) 16))) ∧ Below w.heap.size w w' :=
  ref_Find.calls 1000 A0 c0 x (enE x) (edE x) (qE x) (hE x) (dD x) w hr0 hc0 (rEnergies_of x hx hl he) (lfacts x hx he) (rfacts x hx he) rfl (small_dD x hx he)
theorem May_of (x : List Int) : psalteryref15_May.f x = some (decide (edE x ≠ [])) := by
  unfold psalteryref15_May.f; rw [May_eq]; rfl
set_option maxRecDepth 100000 in
theorem law_Finds.calls (A0 : Option Addr) (c0 : Nat) (x : List Int) (w : World) (hr0 : Kd.C (Kd.int .i32) w A0 x.length x) (hc0 : x.length ≤ c0) (hx : Lines x) :
    Calls Try.prog 6 #[.slice A0 x.length c0] w fun e w' => e = .returned (.bool true) ∧ Below w.heap.size w w' := by
  have HR := Aside0.mk hr0; have HC := Aside0.mk hc0; have HX := Aside0.mk hx
  have HM := Aside0.mk (May_of x)
  clear hr0 hc0 hx
  by_cases hl : 300 < x.length
  · have q0 : ((300 : Int) < (x.length : Int)) := by omega
    clear hl
    go_enter Try.func6, Try.ntmps6
    go_wp2_with (first | (go_at_call 24; refine (law_alive.calls _).mono ?_; rintro e w1 ⟨rfl, hb_⟩; have HB1 := Aside0.mk hb_; clear hb_))
    exact bodyPost_ret (v := .bool true) (by simp [results, Try.results6, go_sem]) rfl ⟨rfl, HB1.out⟩
  · have q0 : ¬ ((300 : Int) < (x.length : Int)) := by omega
    by_cases he : edE x = []
    · have HM2 := Aside0.mk (show psalteryref15_May.f x = some false from by rw [HM.out, decide_eq_false (by rw [he]; simp)])
      have HE := Aside0.mk (Energies_no x HX.out he)
      have heq := arr_same 0 0 0 0 0 0 0 0
      have HF := Aside0.mk (fun W g1 => shape_Find.no 1000 A0 c0 x [] W g1 HC.out HE.out)
      unfold shapeV at HF
      simp only [nums, z8, List.map] at HF
      clear hl he HM HE
      go_enter Try.func6, Try.ntmps6
      go_wp2_with (first | (go_at_call 24; refine (law_alive.calls _).mono ?_; rintro e w1 ⟨rfl, hb_⟩; have HB1 := Aside0.mk hb_; clear hb_) | (go_at_call 25; refine (HF.out _ (Kd.C_below HR.out HB1.out)).mono ?_; rintro e w3 ⟨rfl, hb_⟩; have HB3 := Aside0.mk (below_step HB1.out hb_); clear hb_) | (refine wpList_store_row rfl 51 _ _ rfl w3.heap.size #[.int .i64 0, .int .i64 0, .int .i64 0, .int .i64 0, .int .i64 0, .int .i64 0, .int .i64 0, .int .i64 0, .int .i64 0] rfl rfl 51 #[.int .i64 0, .int .i64 0, .int .i64 0, .int .i64 0, .int .i64 0, .int .i64 0, .int .i64 0, .int .i64 0, .int .i64 0] (blk_new w3 _) (by kernel_rfl) (by kernel_rfl) (by kernel_rfl) ?_; have HK4 := Aside0.mk (setRow_heap (w3.alloc (.cells #[.int .i64 0, .int .i64 0, .int .i64 0, .int .i64 0, .int .i64 0, .int .i64 0, .int .i64 0, .int .i64 0, .int .i64 0] 51)) w3.heap.size _ #[.int .i64 0, .int .i64 0, .int .i64 0, .int .i64 0, .int .i64 0, .int .i64 0, .int .i64 0, .int .i64 0, .int .i64 0] 51 (0, 0) (blk_new w3 _)); have HB4 := Aside0.mk (below_setRow (below_alloc HB3.out (.cells #[.int .i64 0, .int .i64 0, .int .i64 0, .int .i64 0, .int .i64 0, .int .i64 0, .int .i64 0, .int .i64 0, .int .i64 0] 51)) (below_size HB3.out) #[.int .i64 0, .int .i64 0, .int .i64 0, .int .i64 0, .int .i64 0, .int .i64 0, .int .i64 0, .int .i64 0, .int .i64 0]); generalize (w3.alloc (.cells #[.int .i64 0, .int .i64 0, .int .i64 0, .int .i64 0, .int .i64 0, .int .i64 0, .int .i64 0, .int .i64 0, .int .i64 0] 51)).setRow w3.heap.size #[.int .i64 0, .int .i64 0, .int .i64 0, .int .i64 0, .int .i64 0, .int .i64 0, .int .i64 0, .int .i64 0, .int .i64 0] = w4 at HK4 HB4 ⊢) | (go_at_call 26; refine (psalteryref15_May.calls A0 c0 x false _ (Kd.C_below HR.out HB4.out) HC.out HM2.out).mono ?_; rintro e w5 ⟨rfl, hb_⟩; obtain ⟨q8, hq8⟩ := hb_.out; have HB5 := Aside0.mk (show Below w.heap.size w w5 from (by rw [hq8]; exact pw_below_drewN HB4.out _)); have HK5 := Aside0.mk (box_later HK4.out (show Below w4.heap.size w4 w5 from (by rw [hq8]; exact pw_below_drewN (Below.refl _ _) _))); clear hb_ hq8; have x0 := (blk_cell HK5.out 0).trans rfl; have x1 := (blk_cell HK5.out 1).trans rfl; have x2 := (blk_cell HK5.out 2).trans rfl; have x3 := (blk_cell HK5.out 3).trans rfl; have x4 := (blk_cell HK5.out 4).trans rfl; have x5 := (blk_cell HK5.out 5).trans rfl; have x6 := (blk_cell HK5.out 6).trans rfl; have x7 := (blk_cell HK5.out 7).trans rfl; have x8 := (blk_cell HK5.out 8).trans rfl))
      exact bodyPost_ret (v := .bool true) (by simp [results, Try.results6, go_sem]) rfl ⟨rfl, HB5.out⟩
    · have HM2 := Aside0.mk (show psalteryref15_May.f x = some true from by rw [HM.out, decide_eq_true he])
      have HF := Aside0.mk (fun W g1 => find_any x HX.out (by omega) he A0 c0 W g1 HC.out)
      have HG := Aside0.mk (fun W g1 => ref_find_any x HX.out (by omega) he A0 c0 W g1 HC.out)
      generalize ((bestUpto (dD x) 16 : Nat) : Int) = c at HF HG
      have h8 := restL_length (dD x) (bestUpto (dD x) 16)
      generalize restL (dD x) (bestUpto (dD x) 16) = R at HF HG h8
      obtain ⟨r0, r1, r2, r3, r4, r5, r6, r7, rfl⟩ := eight h8
      have heq := arr_same r0 r1 r2 r3 r4 r5 r6 r7
      unfold shapeV at HF HG
      simp only [nums, List.map] at HF HG
      clear hl he HM h8
      go_enter Try.func6, Try.ntmps6
      go_wp2_with (first | (go_at_call 24; refine (law_alive.calls _).mono ?_; rintro e w1 ⟨rfl, hb_⟩; have HB1 := Aside0.mk hb_; clear hb_) | (go_at_call 25; refine (HF.out _ (Kd.C_below HR.out HB1.out)).mono ?_; rintro e w3 ⟨rfl, hb_⟩; have HB3 := Aside0.mk (below_step HB1.out hb_); clear hb_) | (refine wpList_store_row rfl 51 _ _ rfl w3.heap.size #[.int .i64 c, .int .i64 r0, .int .i64 r1, .int .i64 r2, .int .i64 r3, .int .i64 r4, .int .i64 r5, .int .i64 r6, .int .i64 r7] rfl rfl 51 #[.int .i64 0, .int .i64 0, .int .i64 0, .int .i64 0, .int .i64 0, .int .i64 0, .int .i64 0, .int .i64 0, .int .i64 0] (blk_new w3 _) (by kernel_rfl) (by kernel_rfl) (by kernel_rfl) ?_; have HK4 := Aside0.mk (setRow_heap (w3.alloc (.cells #[.int .i64 0, .int .i64 0, .int .i64 0, .int .i64 0, .int .i64 0, .int .i64 0, .int .i64 0, .int .i64 0, .int .i64 0] 51)) w3.heap.size _ #[.int .i64 c, .int .i64 r0, .int .i64 r1, .int .i64 r2, .int .i64 r3, .int .i64 r4, .int .i64 r5, .int .i64 r6, .int .i64 r7] 51 (0, 0) (blk_new w3 _)); have HB4 := Aside0.mk (below_setRow (below_alloc HB3.out (.cells #[.int .i64 0, .int .i64 0, .int .i64 0, .int .i64 0, .int .i64 0, .int .i64 0, .int .i64 0, .int .i64 0, .int .i64 0] 51)) (below_size HB3.out) #[.int .i64 c, .int .i64 r0, .int .i64 r1, .int .i64 r2, .int .i64 r3, .int .i64 r4, .int .i64 r5, .int .i64 r6, .int .i64 r7]); generalize (w3.alloc (.cells #[.int .i64 0, .int .i64 0, .int .i64 0, .int .i64 0, .int .i64 0, .int .i64 0, .int .i64 0, .int .i64 0, .int .i64 0] 51)).setRow w3.heap.size #[.int .i64 c, .int .i64 r0, .int .i64 r1, .int .i64 r2, .int .i64 r3, .int .i64 r4, .int .i64 r5, .int .i64 r6, .int .i64 r7] = w4 at HK4 HB4 ⊢) | (go_at_call 26; refine (psalteryref15_May.calls A0 c0 x true _ (Kd.C_below HR.out HB4.out) HC.out HM2.out).mono ?_; rintro e w5 ⟨rfl, hb_⟩; obtain ⟨q8, hq8⟩ := hb_.out; have HB5 := Aside0.mk (show Below w.heap.size w w5 from (by rw [hq8]; exact pw_below_drewN HB4.out _)); have HK5 := Aside0.mk (box_later HK4.out (show Below w4.heap.size w4 w5 from (by rw [hq8]; exact pw_below_drewN (Below.refl _ _) _))); clear hb_ hq8))
      have HK5d := Aside0.mk (box_later HK5.out (below_drew (Below.refl w5.heap.size w5)))
      have HB5d := Aside0.mk (below_drew HB5.out)
      have x0 := (blk_cell HK5d.out 0).trans rfl
      have x1 := (blk_cell HK5d.out 1).trans rfl
      have x2 := (blk_cell HK5d.out 2).trans rfl
      have x3 := (blk_cell HK5d.out 3).trans rfl
      have x4 := (blk_cell HK5d.out 4).trans rfl
      have x5 := (blk_cell HK5d.out 5).trans rfl
      have x6 := (blk_cell HK5d.out 6).trans rfl
      have x7 := (blk_cell HK5d.out 7).trans rfl
      have x8 := (blk_cell HK5d.out 8).trans rfl
      go_region_with (first | (go_at_call 27; refine (HG.out _ (Kd.C_below HR.out HB5d.out)).mono ?_; rintro e w7 ⟨rfl, hb_⟩; have HB7 := Aside0.mk (below_step HB5d.out hb_); have HK7 := Aside0.mk (box_later HK5d.out hb_); have y0 := (blk_cell HK7.out 0).trans rfl; have y1 := (blk_cell HK7.out 1).trans rfl; have y2 := (blk_cell HK7.out 2).trans rfl; have y3 := (blk_cell HK7.out 3).trans rfl; have y4 := (blk_cell HK7.out 4).trans rfl; have y5 := (blk_cell HK7.out 5).trans rfl; have y6 := (blk_cell HK7.out 6).trans rfl; have y7 := (blk_cell HK7.out 7).trans rfl; have y8 := (blk_cell HK7.out 8).trans rfl; clear hb_))
      all_goals
        go_wp2
        exact bodyPost_ret (v := .bool true) (by simp [results, Try.results6, go_sem]) rfl ⟨rfl, HB7.out⟩
end Go.Proofs.Ytblehkoonajofaa.PShape
