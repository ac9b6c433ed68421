/- Shape: the lines that the reference turns. -/
import Derived.Test.YtblehkoonajofaaShapeTurn
namespace Go.Proofs.Ytblehkoonajofaa.PShape
open Go.RowKit Go.Proofs.YtblehkoonajofaaW.PrintWords Go.Proofs.YtblehkoonajofaaW.PrintLast Go.Proofs.YtblehkoonajofaaW.PrintMore Go.Proofs.Ytblehkoonajofaa.ShapeBand Go.Proofs.Ytblehkoonajofaa.RowAt
set_option linter.unusedVariables false
set_option linter.unusedSimpArgs false
structure UI (w wx : World) (c r0 r1 r2 r3 r4 r5 r6 r7 : Int) (u : Value) (L : List Int) : Prop where
  bx : wx.heap[w.heap.size]? = some (.cells #[.int .i64 c, .int .i64 r0, .int .i64 r1, .int .i64 r2, .int .i64 r3, .int .i64 r4, .int .i64 r5, .int .i64 r6, .int .i64 r7] 55 (0, 0))
  al : wx.ownsRow w.heap.size 21 1 u L.length (nums .i32 L)
  be : Below w.heap.size w wx
section
variable {w wx wy : World} {c r0 r1 r2 r3 r4 r5 r6 r7 : Int} {L : List Int} {u : Value}
theorem UI.later (h : UI w wx c r0 r1 r2 r3 r4 r5 r6 r7 u L) (hb : Below wx.heap.size wx wy) : UI w wy c r0 r1 r2 r3 r4 r5 r6 r7 u L :=
  ⟨box_later h.bx hb, h.al.kept (grown_of_below hb none) (by cases Value.ownBlock _ <;> simp), below_step h.be hb⟩
theorem UI.grow (h : UI w wx c r0 r1 r2 r3 r4 r5 r6 r7 u L) {M : List Int} {v : Value} (g1 : wy.ownsRow w.heap.size 21 1 v M.length (nums .i32 M)) (g2 : Below w.heap.size w wy) (g3 : wx.grownBy wy u.ownBlock) : UI w wy c r0 r1 r2 r3 r4 r5 r6 r7 v M :=
  ⟨(g3.block _ (blk_lt h.bx) (own_ne h.al h.bx (by decide))).trans h.bx, g1, g2⟩
end
open Go.Proofs.Ytblehkoonajofaa.Num Go.Proofs.Ytblehkoonajofaa.LogsBaseShape in
set_option maxRecDepth 100000 in
set_option maxHeartbeats 8000000 in
theorem ref_Turn.calls (A0 : Option Addr) (c0 : Nat) (x : List Int) (c : Int) (r : List Int) (ev : Bool) (w : World) (hr0 : Kd.C (Kd.int .i32) w A0 x.length x) (hc0 : x.length ≤ c0) (hx : Lines x) (he : edE x ≠ []) (hr : r.length = 8) (hk : okShape c r) :
    Calls Try.prog 42 #[.slice A0 x.length c0, shapeV c r, .bool ev] w fun e w' => ∃ A cap, e = .returned (.slice A x.length cap) ∧ w'.ownsRow w.heap.size 21 1 (.slice A x.length cap) x.length (nums .i32 (turnL x (saysL c r) (if ev then -1 else 1))) ∧ Below w.heap.size w w' := by
  have HX := Aside0.mk hx; have HE := Aside0.mk he
  have hn0 : 0 < x.length := by have := (edges_ok _ he).2.2.2.1; omega
  obtain ⟨adx, hA, hcx⟩ := (reads_int hr0).2.2 hn0
  subst hA
  have HCX := Aside0.mk hcx
  have HN := Aside0.mk (show x.length ≤ 120 from by have := (edges_ok _ he).2.2.2.2.1; omega)
  have HSY := Aside0.mk (fun b hb w_ => ref_Says.calls c r hr hk b hb w_)
  have HSL := Aside0.mk (fun b => saysL_little hk b)
  generalize hS : saysL c r = S at HSY HSL ⊢
  obtain ⟨T, hT⟩ : ∃ T, T = turnL x S (if ev then -1 else 1) := ⟨_, rfl⟩
  have HTA := Aside0.mk (fun (i : Nat) (hi : i < x.length) => turnL_at x S (if ev then -1 else 1) hi)
  have HTL := Aside0.mk (turnL_length x S (if ev then -1 else 1))
  rw [← hT] at HTA HTL ⊢
  obtain ⟨r0, r1, r2, r3, r4, r5, r6, r7, rfl⟩ := eight hr
  clear hr0 hc0 hx he hr hk hS hcx hn0 hT
  have HI := Aside0.mk (show UI w (w.alloc (.cells #[.int .i64 c, .int .i64 r0, .int .i64 r1, .int .i64 r2, .int .i64 r3, .int .i64 r4, .int .i64 r5, .int .i64 r6, .int .i64 r7] 55)) c r0 r1 r2 r3 r4 r5 r6 r7 (.slice none 0 0) [] from ⟨blk_new w _, own_nil _ _ _ _, below_alloc (Below.refl w.heap.size w) _⟩)
  unfold shapeV at HSY ⊢
  simp only [nums, List.map] at HSY ⊢
  go_enter Try.func42, Try.ntmps42
  go_wp2
  change Code.wp _ _ _ _ (w.alloc (.cells #[.int .i64 c, .int .i64 r0, .int .i64 r1, .int .i64 r2, .int .i64 r3, .int .i64 r4, .int .i64 r5, .int .i64 r6, .int .i64 r7] 55))
  generalize w.alloc (.cells #[.int .i64 c, .int .i64 r0, .int .i64 r1, .int .i64 r2, .int .i64 r3, .int .i64 r4, .int .i64 r5, .int .i64 r6, .int .i64 r7] 55) = w2 at HI ⊢
  go_loopg [7, 8, 9, 10, 11, 12, 13, 14, 15, 16, 17, 18, 19, 20, 21, 22, 23, 24, 25, 26, 27, 28, 29, 30, 31, 32, 33, 34, 35, 36, 37, 38, 39, 40, 41, 42, 43, 44, 45] x.length (fun kq v7 v8 v9 v10 v11 v12 v13 v14 v15 v16 v17 v18 v19 v20 v21 v22 v23 v24 v25 v26 v27 v28 v29 v30 v31 v32 v33 v34 v35 v36 v37 v38 v39 v40 v41 v42 v43 v44 v45 wx => ∃ (i : Nat) (u : Value) (L : List Int), v8 = .int .i64 (i : Int) ∧ v7 = u ∧ Aside0 (kq + i = x.length) ∧ Aside0 (L = T.take i) ∧ Aside0 (UI w wx c r0 r1 r2 r3 r4 r5 r6 r7 u L))
  case atStart => exact ⟨0, _, [], rfl, rfl, ⟨rfl⟩, ⟨rfl⟩, HI⟩
  case round =>
    clear HI
    obtain ⟨i, u7, L, rfl, rfl, HG, HL, HI⟩ := hrel
    by_cases hi : i < x.length
    · have hi0 : (0 : Int) ≤ i := by omega
      have hin : (i : Int) < (x.length : Int) := by omega
      have hbo := band_ok (n := (x.length : Int)) (i := (i : Int)) HE.out hi0 hin
      obtain ⟨_, hb0, hb8, _⟩ := hbo
      have HBN := Aside0.mk (Band_eq (n := (x.length : Int)) (i := (i : Int)) HE.out hi0 hin (k := 1000) (by decide))
      have htv := HTA.out i hi
      unfold turnV at htv
      obtain ⟨b, hbn⟩ : ∃ b : Nat, bandV (x.length : Int) (i : Int) = (b : Int) := ⟨(bandV (x.length : Int) (i : Int)).toNat, by omega⟩
      rw [hbn] at HBN htv hb0 hb8
      rw [Int.toNat_natCast] at htv
      have hb9 : b < 8 := by omega
      have HSB := Aside0.mk (HSY.out b hb9)
      have hsl := HSL.out b
      obtain ⟨s, hse⟩ : ∃ s, s = S.getD b 0 := ⟨_, rfl⟩
      rw [← hse] at HSB hsl htv
      obtain ⟨Q, hQ⟩ : ∃ Q, Q = (if ev then -1 else 1) * s := ⟨_, rfl⟩
      have hQr : -1024 ≤ Q ∧ Q ≤ 1024 := by rw [hQ]; cases ev <;> simp <;> omega
      have hQe : Q = if ev then -s else s := by rw [hQ]; cases ev <;> simp
      rw [← hQ] at htv
      have HEX := Aside0.mk (rExp_of hQr.1 hQr.2)
      have hYR := expV_little hQr.1 hQr.2
      obtain ⟨y, hy⟩ : ∃ y, y = expV Q := ⟨_, rfl⟩
      rw [← hy] at HEX hYR htv
      have hyw : IntKind.i64.wrap y = y := by rw [i64_w]; unfold wrap64; omega
      have hvr := HX.out.at (i := (i : Int)) (by omega) hin
      rw [rd, Int.toNat_natCast] at hvr
      have hx1 := HCX.out i hi
      generalize x.getD i 0 = v at hx1 hvr htv
      have hvw : IntKind.i64.wrap v = v := by rw [i64_w]; unfold wrap64; omega
      have hpr := line_exp hvr.1 hvr.2 hYR.1 hYR.2
      obtain ⟨P, hP⟩ : ∃ P, P = v * y := ⟨_, rfl⟩
      have hpw : IntKind.i64.wrap (v * y) = P := by rw [← hP, i64_w]; unfold wrap64; rw [← hP] at hpr; omega
      rw [← hP] at hpr htv
      have HRD := Aside0.mk (rRound_of hpr.1 hpr.2)
      obtain ⟨R, hR⟩ : ∃ R, R = rnd P 16 := ⟨_, rfl⟩
      rw [← hR] at HRD htv
      have HSD := Aside0.mk (rSat_of R)
      obtain ⟨Z, hZ⟩ : ∃ Z, Z = sat32 R := ⟨_, rfl⟩
      have hZw : IntKind.i32.wrap Z = Z := by have := sat32_range R; rw [hZ, i32_w]; unfold wrap32; omega
      rw [← hZ] at HSD htv
      have HTZ := Aside0.mk htv
      have HII := Aside0.mk hi
      have HLN := Aside0.mk (show L.length = i from by rw [HL.out, List.length_take, HTL.out]; omega)
      have HXC := Aside0.mk (show ∀ wz, Below w.heap.size w wz → wz.cell? (adx.add i) = some (.int .i32 v) from fun wz hb => (hb.cell (World.block_lt_of_cell? _ _ hx1)).trans hx1)
      obtain ⟨g0, rfl⟩ : ∃ g0, gk = g0 + 1 := ⟨gk - 1, by have := HG.out; omega⟩
      have hwi : IntKind.i64.wrap ((i : Int) + 1) = ((i + 1 : Nat) : Int) := by rw [i64_w]; unfold wrap64; have := HN.out; omega
      have hsw : IntKind.i32.wrap (-s) = -s := by rw [i32_w]; unfold wrap32; omega
      have HQE := Aside0.mk hQe
      clear hP hpr hR hZ htv hvr hx1 hQr hYR hy hse hQ hbn hi hsl hQe
      go_wp2
      have HId := Aside0.mk (HI.out.later (below_drew (Below.refl wr.heap.size wr)))
      have x0 := (blk_cell HId.out.bx 0).trans rfl
      have x1 := (blk_cell HId.out.bx 1).trans rfl
      have x2 := (blk_cell HId.out.bx 2).trans rfl
      have x3 := (blk_cell HId.out.bx 3).trans rfl
      have x4 := (blk_cell HId.out.bx 4).trans rfl
      have x5 := (blk_cell HId.out.bx 5).trans rfl
      have x6 := (blk_cell HId.out.bx 6).trans rfl
      have x7 := (blk_cell HId.out.bx 7).trans rfl
      have x8 := (blk_cell HId.out.bx 8).trans rfl
      go_region_with (first | (go_at_call 76; refine (psalteryref15_Band.calls 1000 _ _ _ _ HBN.out).mono ?_; rintro e w4 ⟨rfl, hb_⟩; have HI4 := Aside0.mk (HId.out.later hb_); have y0 := (blk_cell HI4.out.bx 0).trans rfl; have y1 := (blk_cell HI4.out.bx 1).trans rfl; have y2 := (blk_cell HI4.out.bx 2).trans rfl; have y3 := (blk_cell HI4.out.bx 3).trans rfl; have y4 := (blk_cell HI4.out.bx 4).trans rfl; have y5 := (blk_cell HI4.out.bx 5).trans rfl; have y6 := (blk_cell HI4.out.bx 6).trans rfl; have y7 := (blk_cell HI4.out.bx 7).trans rfl; have y8 := (blk_cell HI4.out.bx 8).trans rfl; clear hb_) | (go_at_call 41; refine (HSB.out _).mono ?_; rintro e w5 ⟨rfl, hb_⟩; have HI5 := Aside0.mk (HI4.out.later hb_); clear hb_))
      all_goals
        cases ev
        · have hq : Q = s := by simpa using HQE.out
          subst hq
          clear HQE
          go_wp2_with (first | (go_at_call 77; refine (psalteryref02_Exp.calls 1000 _ y 0 _ HEX.out).mono ?_; rintro e w6 ⟨rfl, hb_⟩; have HI6 := Aside0.mk (HI5.out.later hb_); have hx6 := HXC.out _ HI6.out.be; clear hb_) | (go_at_call 55; refine (psalteryref01_Round.calls P 16 R _ HRD.out).mono ?_; rintro e w7 ⟨rfl, hb_⟩; have HI7 := Aside0.mk (HI6.out.later hb_); clear hb_) | (go_at_call 56; refine (psalteryref01_Sat.calls R 32 Z _ HSD.out).mono ?_; rintro e w8 ⟨rfl, hb_⟩; obtain ⟨q8, hq8⟩ := hb_.out; have HI8 := Aside0.mk (HI7.out.later (show Below w7.heap.size w7 w8 from (by rw [hq8]; exact pw_below_drewN (Below.refl _ _) _))); clear hb_ hq8) | (at_builtin; refine print_append_num (w0 := w) w.heap.size rfl (.tmp 32) (.tmp 44) 41 21 .i32 4 rfl Try.underlying41 info_i32 (by decide) u7 L Z rfl rfl HI8.out.al HI8.out.be (below_size HI8.out.be) (by rw [HLN.out]; have := HN.out; have := HII.out; omega) ?_; intro v1 w9 g1 g2 g3 g4; have HI9 := Aside0.mk (HI8.out.grow g1 g2 g3); clear g1 g2 g3 g4))
          go_roundg g0
          case measure => omega
          case rel => exact ⟨i + 1, _, _, by first | rfl | (congr 1; push_cast; rfl), rfl, ⟨by have := HG.out; omega⟩, ⟨by rw [HL.out, ← HTZ.out, take_next (by rw [HTL.out]; exact HII.out)]⟩, HI9⟩
        · have hq : Q = -s := by simpa using HQE.out
          subst hq
          clear HQE
          go_wp2_with (first | (go_at_call 77; refine (psalteryref02_Exp.calls 1000 _ y 0 _ HEX.out).mono ?_; rintro e w6 ⟨rfl, hb_⟩; have HI6 := Aside0.mk (HI5.out.later hb_); have hx6 := HXC.out _ HI6.out.be; clear hb_) | (go_at_call 55; refine (psalteryref01_Round.calls P 16 R _ HRD.out).mono ?_; rintro e w7 ⟨rfl, hb_⟩; have HI7 := Aside0.mk (HI6.out.later hb_); clear hb_) | (go_at_call 56; refine (psalteryref01_Sat.calls R 32 Z _ HSD.out).mono ?_; rintro e w8 ⟨rfl, hb_⟩; obtain ⟨q8, hq8⟩ := hb_.out; have HI8 := Aside0.mk (HI7.out.later (show Below w7.heap.size w7 w8 from (by rw [hq8]; exact pw_below_drewN (Below.refl _ _) _))); clear hb_ hq8) | (at_builtin; refine print_append_num (w0 := w) w.heap.size rfl (.tmp 32) (.tmp 44) 41 21 .i32 4 rfl Try.underlying41 info_i32 (by decide) u7 L Z rfl rfl HI8.out.al HI8.out.be (below_size HI8.out.be) (by rw [HLN.out]; have := HN.out; have := HII.out; omega) ?_; intro v1 w9 g1 g2 g3 g4; have HI9 := Aside0.mk (HI8.out.grow g1 g2 g3); clear g1 g2 g3 g4))
          go_roundg g0
          case measure => omega
          case rel => exact ⟨i + 1, _, _, by first | rfl | (congr 1; push_cast; rfl), rfl, ⟨by have := HG.out; omega⟩, ⟨by rw [HL.out, ← HTZ.out, take_next (by rw [HTL.out]; exact HII.out)]⟩, HI9⟩
    · obtain rfl : i = x.length := by have := HG.out; omega
      have hin : ¬ ((x.length : Int) < (x.length : Int)) := by omega
      have HLT := Aside0.mk (show L = T from by rw [HL.out, List.take_of_length_le (by rw [HTL.out]; exact Nat.le_refl _)])
      obtain ⟨Al, cl, eL⟩ := own_slice HI.out.al
      subst eL
      rw [show L.length = x.length from by rw [HLT.out, HTL.out]]
      rw [HLT.out, HTL.out] at HI
      clear hi
      go_wp2
      exact bodyPost_ret (v := .slice Al x.length cl) (by simp [results, Try.results42, go_sem]) rfl ⟨_, _, rfl, (by have t_ := HI.out.al; rw [HTL.out] at t_; exact t_), HI.out.be⟩
end Go.Proofs.Ytblehkoonajofaa.PShape
