/- Shape: lines that are turned by a shape, even and uneven. -/
import Derived.Test.YtblehkoonajofaaShapeNums
namespace Go.Proofs.Ytblehkoonajofaa.PShape
open Go.RowKit Go.Proofs.YtblehkoonajofaaW.PrintWords Go.Proofs.YtblehkoonajofaaW.PrintLast Go.Proofs.YtblehkoonajofaaW.PrintMore Go.Proofs.Ytblehkoonajofaa.ShapeBand Go.Proofs.Ytblehkoonajofaa.RowAt
set_option linter.unusedVariables false
set_option linter.unusedSimpArgs false
section
open Go.Proofs.Ytblehkoonajofaa.Num Go.Proofs.Ytblehkoonajofaa.LogsBaseShape Go.Proofs.Ytblehkoonajofaa.RefLogsShape
/-- One line times a power of two. -/
def turnV (x S : List Int) (sgn : Int) (i : Nat) : Int := sat32 (rnd (x.getD i 0 * expV (sgn * S.getD (bandV (x.length : Int) i).toNat 0)) 16)
def turnL (x S : List Int) (sgn : Int) : List Int := (List.range x.length).map (turnV x S sgn)
theorem turnL_length (x S : List Int) (sgn : Int) : (turnL x S sgn).length = x.length := by simp [turnL]
theorem turnL_at (x S : List Int) (sgn : Int) {i : Nat} (hi : i < x.length) : (turnL x S sgn).getD i 0 = turnV x S sgn i := by
  rw [turnL, List.getD_eq_getElem?_getD, List.getElem?_map, List.getElem?_range hi]; rfl
theorem expV_little {q : Int} (h0 : -1024 ≤ q) (h1 : q ≤ 1024) : 0 ≤ expV q ∧ expV q ≤ 4194304 := by
  have h : ∀ k : Fin 2049, 0 ≤ expV ((k.val : Int) - 1024) ∧ expV ((k.val : Int) - 1024) ≤ 4194304 := by decide +kernel
  have h2 := h ⟨(q + 1024).toNat, by omega⟩
  rwa [show (((q + 1024).toNat : Nat) : Int) - 1024 = q by omega] at h2
theorem line_exp {v y : Int} (h1 : -2147483648 ≤ v) (h2 : v ≤ 2147483647) (y0 : 0 ≤ y) (y1 : y ≤ 4194304) : -9007199254740992 ≤ v * y ∧ v * y ≤ 9007199254740992 := by
  have a := Int.mul_le_mul_of_nonneg_right h2 y0
  have b := Int.mul_le_mul_of_nonneg_right h1 y0
  omega
theorem Exp_of {q : Int} (h0 : -1024 ≤ q) (h1 : q ≤ 1024) : logs_Exp.f 1000 q = some (expV q, 0) := by
  rw [Exp_eq q (by decide), if_pos (by omega)]
theorem rExp_of {q : Int} (h0 : -1024 ≤ q) (h1 : q ≤ 1024) : psalteryref02_Exp.f 1000 q = some (expV q, 0) := by
  rw [rExp_eq q (by decide), if_pos (by omega)]
theorem Round_of {v : Int} (h0 : -9007199254740992 ≤ v) (h1 : v ≤ 9007199254740992) : fix_Round.f v 16 = some (rnd v 16) := Go.Proofs.Ytblehkoonajofaa.FixBaseShape.Round_eq 16 (by omega) (by omega)
theorem Sat_of (v : Int) : fix_Sat32.f v = some (sat32 v) := Go.Proofs.Ytblehkoonajofaa.FixBaseShape.Sat32_eq v
theorem rRound_of {v : Int} (h0 : -9007199254740992 ≤ v) (h1 : v ≤ 9007199254740992) : psalteryref01_Round.f v 16 = some (rnd v 16) := Go.Proofs.Ytblehkoonajofaa.FixBaseShape.rRound_eq 16 (by omega) (by omega)
theorem rSat_of (v : Int) : psalteryref01_Sat.f v 32 = some (sat32 v) := Go.Proofs.Ytblehkoonajofaa.FixBaseShape.rSat32_eq v
theorem saysL_little {c : Int} {r : List Int} (hk : okShape c r) (b : Nat) : -1024 ≤ (saysL c r).getD b 0 ∧ (saysL c r).getD b 0 ≤ 896 := by
  by_cases hb : b < 8
  · rw [saysL_at c r hb]
    have h1 := (rowOf_small c.toNat (by have := hk.1; omega)).2 b
    have h2 := hk.2 b hb
    omega
  · rw [List.getD_eq_getElem?_getD, List.getElem?_eq_none (by rw [saysL_length]; omega)]; decide
theorem band_in {x : List Int} (he : edE x ≠ []) {b j : Nat} (hb : b < 8) (h0 : (edE x).getD b 0 ≤ j) (h1 : (j : Int) < (edE x).getD (b + 1) 0) : bandV (x.length : Int) (j : Int) = b := by
  have hn := edge_step (n := (x.length : Int)) he (b := (b : Int)) (by omega) (by omega)
  have e0 : rd (edgesV (x.length : Int)) (b : Int) = (edE x).getD b 0 := by rw [rd, Int.toNat_natCast]; rfl
  have e1 : rd (edgesV (x.length : Int)) ((b : Int) + 1) = (edE x).getD (b + 1) 0 := by rw [rd, show ((b : Int) + 1).toNat = b + 1 by omega]; rfl
  obtain ⟨_, b0, b8, lo, hi2, below, above, _⟩ := band_ok (n := (x.length : Int)) (i := (j : Int)) he (by omega) (by omega)
  rcases Int.lt_trichotomy (b : Int) (bandV (x.length : Int) j) with c | c | c
  · have := below ⟨b, hb⟩ c
    rw [e1] at this; omega
  · exact c.symm
  · have := above ⟨b, hb⟩ c
    rw [e0] at this; omega
end
theorem seg_at {x : List Int} {p q j : Nat} (h1 : q ≤ x.length) (hj : p + j < q) : (seg x (p : Int) (q : Int)).getD j 0 = x.getD (p + j) 0 := by
  rw [seg, Int.toNat_natCast, Int.toNat_natCast, List.getD_eq_getElem?_getD, List.getD_eq_getElem?_getD, List.getElem?_drop, List.getElem?_take, if_pos hj]
theorem seg_length {x : List Int} {p q : Nat} (h1 : q ≤ x.length) : (seg x (p : Int) (q : Int)).length = q - p := by
  rw [seg, Int.toNat_natCast, Int.toNat_natCast, List.length_drop, List.length_take]; omega
theorem Edges_no (x : List Int) (he : edE x = []) : band_Edges.f (x.length : Int) = some ([], 1) := by
  unfold band_Edges.f; rw [if_pos (show edgesV (x.length : Int) = [] from he)]; rw [show edgesV (x.length : Int) = [] from he]
open Go.Proofs.Ytblehkoonajofaa.Num Go.Proofs.Ytblehkoonajofaa.LogsBaseShape in
set_option maxRecDepth 100000 in
set_option maxHeartbeats 4000000 in
theorem shape_turned.calls (A0 : Option Addr) (c0 : Nat) (x : List Int) (c : Int) (r : List Int) (sgn : Int) (w : World) (hr0 : Kd.C (Kd.int .i32) w A0 x.length x) (hc0 : x.length ≤ c0) (hx : Lines x) (he : edE x ≠ []) (hr : r.length = 8) (hk : okShape c r) (hs : sgn = 1 ∨ sgn = -1) :
    Calls Try.prog 75 #[.slice A0 x.length c0, shapeV c r, .int .i32 sgn] w fun e w' => ∃ A cap, e = .returned (.tuple #[.slice A x.length cap, .int .i64 0]) ∧ w'.ownsRow w.heap.size 21 1 (.slice A x.length cap) x.length (nums .i32 (turnL x (saysL c r) sgn)) ∧ Below w.heap.size w w' := by
  have HR0 := Aside0.mk hr0; have HC0 := Aside0.mk hc0; have HX := Aside0.mk hx; have HE := Aside0.mk he
  have HEC := Aside0.mk (Edges_of x he)
  have HE9 := Aside0.mk (show (edE x).length = 9 from (edges_ok _ he).1)
  have HSY := Aside0.mk (fun w_ => shape_Says.calls c r hr hk w_)
  have HSL := Aside0.mk (fun b => saysL_little hk b)
  have HN := Aside0.mk (show x.length ≤ 120 from by have := (edges_ok _ he).2.2.2.2.1; omega)
  have hmo : ∀ W : World, (Instr.makeSlice 41 (.int .i64 0) (.int .i64 (x.length : Int))).run Try.prog W = .ok (.slice (some ⟨W.heap.size, 0, none⟩) 0 x.length) (W.alloc (.cells (madeCells #[.int .i32 0] x.length) 21)) := by
    intro W
    obtain ⟨i0, hi0, hz⟩ := Option.map_eq_some_iff.1 info_i32
    simp only [Prod.mk.injEq] at hz
    have h1 := run_make (P := Try.prog) W 41 21 i0 (.int .i32 0) Try.underlying41 hi0 hz.1 .i64 .i64 0 (x.length : Int) (by decide) (by omega) (by rw [hz.2.2]; have := HN.out; omega) (by have := HN.out; omega)
    rw [hz.2.1] at h1
    simpa [Value.cells] using h1
  generalize hS : saysL c r = S at HSY HSL ⊢
  obtain ⟨E, hEE⟩ : ∃ E, E = edE x := ⟨_, rfl⟩
  rw [← hEE] at HEC HE9
  have HEE := Aside0.mk hEE
  obtain ⟨n, hn⟩ : ∃ n, n = x.length := ⟨_, rfl⟩
  have HNN := Aside0.mk hn
  obtain ⟨r0, r1, r2, r3, r4, r5, r6, r7, rfl⟩ := eight hr
  clear hr0 hc0 hx he hk hr hS hEE
  have HBB := Aside0.mk (below_alloc (Below.refl w.heap.size w) (.cells #[.int .i64 c, .int .i64 r0, .int .i64 r1, .int .i64 r2, .int .i64 r3, .int .i64 r4, .int .i64 r5, .int .i64 r6, .int .i64 r7] 51))
  have HBX := Aside0.mk (blk_new w (.cells #[.int .i64 c, .int .i64 r0, .int .i64 r1, .int .i64 r2, .int .i64 r3, .int .i64 r4, .int .i64 r5, .int .i64 r6, .int .i64 r7] 51))
  unfold shapeV at HSY ⊢
  simp only [nums, List.map] at HSY ⊢
  go_enter Try.func75, Try.ntmps75
  go_wp2_with (first | (go_at_call 89; refine (band_Edges.calls _ E 0 _ HEC.out).mono ?_; rintro e w2 ⟨v2_, rfl, g1, g2⟩; obtain ⟨Ae, ce, rfl⟩ := Kd.R_slice g1; have HB2 := Aside0.mk (below_step HBB.out g2); have HX2 := Aside0.mk (box_later HBX.out g2); have HER := Aside0.mk (show w2.ownsRow w.heap.size 157 1 (.slice Ae 9 ce) 9 (nums .i64 E) from (by have g3 := Kd.own_of_R g1; rw [HE9.out] at g3; exact own_lower g3 (below_size HBB.out))); rw [HE9.out]; have x0 := (blk_cell HX2.out 0).trans rfl; have x1 := (blk_cell HX2.out 1).trans rfl; have x2 := (blk_cell HX2.out 2).trans rfl; have x3 := (blk_cell HX2.out 3).trans rfl; have x4 := (blk_cell HX2.out 4).trans rfl; have x5 := (blk_cell HX2.out 5).trans rfl; have x6 := (blk_cell HX2.out 6).trans rfl; have x7 := (blk_cell HX2.out 7).trans rfl; have x8 := (blk_cell HX2.out 8).trans rfl; clear g1 g2) | (go_at_call 36; refine (HSY.out _).mono ?_; rintro e w9 ⟨As, rfl, g1, hb_⟩; have HB9 := Aside0.mk (below_step HB2.out hb_); have HE9r := Aside0.mk (HER.out.kept (grown_of_below hb_ none) (by cases Value.ownBlock _ <;> simp)); have HS9 := Aside0.mk g1; clear x0 x1 x2 x3 x4 x5 x6 x7 x8 g1 hb_))
  have hbm := below_alloc (Below.refl w9.heap.size w9) (.cells (madeCells #[.int .i32 0] x.length) 21)
  have HMO := Aside0.mk (World.ownsRow_made (base := w9.heap.size) (e := 21) (size := 1) w9 (madeCells #[.int .i32 0] x.length) x.length (Nat.le_refl _) (by unfold maxLen; have := HN.out; omega) (by simp [size_madeCells]))
  have HBM := Aside0.mk hbm
  generalize w9.alloc (.cells (madeCells #[.int .i32 0] x.length) 21) = wm at HMO HBM ⊢
  clear hbm hmo HBB HBX HER HSY HEC
  have HRX := Aside0.mk (Kd.C_below HR0.out (show Below w.heap.size w w9 from HB9.out))
  obtain ⟨T, hT⟩ : ∃ T, T = turnL x S sgn := ⟨_, rfl⟩
  have HT := Aside0.mk hT
  have HTA := Aside0.mk (fun (i : Nat) (hi : i < x.length) => turnL_at x S sgn hi)
  have HTL := Aside0.mk (turnL_length x S sgn)
  rw [← hT] at HTA HTL
  clear hT
  go_loopg [11, 12, 13, 14, 15, 17, 40, 41, 42, 43, 44, 45, 46, 47, 48, 49, 50, 51, 52, 53, 54, 55, 56, 57, 58, 59, 60, 61, 62, 63, 64, 65, 66, 67, 68, 69, 70, 71, 72, 73, 74, 75, 76, 77, 78, 79] 8 (fun kq v11 v12 v13 v14 v15 v17 v40 v41 v42 v43 v44 v45 v46 v47 v48 v49 v50 v51 v52 v53 v54 v55 v56 v57 v58 v59 v60 v61 v62 v63 v64 v65 v66 v67 v68 v69 v70 v71 v72 v73 v74 v75 v76 v77 v78 v79 wx => ∃ (b : Nat) (u : Value) (L : List Int), v40 = .int .i64 (b : Int) ∧ v11 = u ∧ Aside0 (kq + b = 8) ∧ Aside0 (L = T.take (E.getD b 0).toNat) ∧ Aside0 (wx.ownsRow w9.heap.size 21 1 u L.length (nums .i32 L)) ∧ Aside0 (Below w9.heap.size w9 wx))
  case atStart => exact ⟨0, _, [], rfl, rfl, ⟨rfl⟩, ⟨by rw [HEE.out, show (edE x).getD 0 0 = 0 from (edges_ok _ HE.out).2.1]; rfl⟩, HMO, HBM⟩
  case round =>
    clear HMO HBM
    obtain ⟨b, u11, L, rfl, rfl, HG, HL, HO, HB⟩ := hrel
    by_cases hb : b < 8
    · have hb0 : (0 : Int) ≤ b := by omega
      have hb8 : (b : Int) < 8 := by omega
      have hi9 : (b : Int) < 9 := by omega
      have hj9 : (b : Int) + 1 < 9 := by omega
      have hj0 : (0 : Int) ≤ (b : Int) + 1 := by omega
      have hn9 : b + 1 < 9 := by omega
      have hm9 : b < 9 := by omega
      have ht1 : ((b : Int) + 1).toNat = b + 1 := by omega
      have hwi : IntKind.i64.wrap ((b : Int) + 1) = (b : Int) + 1 := by rw [i64_w]; unfold wrap64; omega
      obtain ⟨ads, rfl, hcs⟩ := (own_reads' HS9.out).2.2 (by omega)
      obtain ⟨ade, rfl, hce⟩ := (own_reads' HE9r.out).2.2 (by omega)
      have hs9 := hcs b hb
      have he9 := hce b (by omega)
      have hf9 := hce (b + 1) (by omega)
      have hgap := ed_gap x HE.out hb
      have hlast := edge_step (n := (x.length : Int)) HE.out (b := (b : Int)) (by omega) (by omega)
      have hsl := HSL.out b
      rw [rd, rd, Int.toNat_natCast, ht1] at hlast
      change 0 ≤ (edE x).getD b 0 ∧ (edE x).getD b 0 ≤ (edE x).getD (b + 1) 0 ∧ (edE x).getD (b + 1) 0 ≤ (x.length : Int) at hlast
      have hbin : ∀ j : Nat, (edE x).getD b 0 ≤ j → (j : Int) < (edE x).getD (b + 1) 0 → bandV (x.length : Int) (j : Int) = b := fun j h0 h1 => band_in HE.out hb h0 h1
      rw [← HEE.out] at hgap hlast hbin
      obtain ⟨p, hp⟩ : ∃ p : Nat, E.getD b 0 = (p : Int) := ⟨(E.getD b 0).toNat, by omega⟩
      obtain ⟨q, hq⟩ : ∃ q : Nat, E.getD (b + 1) 0 = (q : Int) := ⟨(E.getD (b + 1) 0).toNat, by omega⟩
      have HLL := HL.out
      rw [hp] at he9 hgap hlast hbin HLL
      rw [hq] at hf9 hgap hlast hbin
      obtain ⟨s, hse⟩ : ∃ s, s = S.getD b 0 := ⟨_, rfl⟩
      rw [← hse] at hs9 hsl
      obtain ⟨Q, hQ⟩ : ∃ Q, Q = sgn * s := ⟨_, rfl⟩
      have hQr : -1024 ≤ Q ∧ Q ≤ 1024 := by rcases hs with rfl | rfl <;> omega
      have hQw : IntKind.i32.wrap (sgn * s) = Q := by rw [← hQ, i32_w]; unfold wrap32; omega
      have hEX := Exp_of hQr.1 hQr.2
      have hYR := expV_little hQr.1 hQr.2
      obtain ⟨y, hy⟩ : ∃ y, y = expV Q := ⟨_, rfl⟩
      rw [← hy] at hEX hYR
      have hyw : IntKind.i64.wrap y = y := by rw [i64_w]; unfold wrap64; omega
      have HTV := Aside0.mk (show ∀ j, p ≤ j → j < q → T.getD j 0 = sat32 (rnd (x.getD j 0 * y) 16) from by
        intro j h0 h1
        rw [HTA.out j (by omega)]
        unfold turnV
        rw [hbin j (by omega) (by omega), Int.toNat_natCast, ← hse, ← hQ, ← hy])
      have HLN := Aside0.mk (show L.length = p from by rw [HL.out, hp, Int.toNat_natCast, List.length_take, HTL.out]; omega)
      have HLP := Aside0.mk (show L = T.take p from by rw [HL.out, hp, Int.toNat_natCast])
      have HPQ := Aside0.mk (show p + 2 ≤ q ∧ q ≤ x.length from by omega)
      have HQE := Aside0.mk hq
      have HEX := Aside0.mk hEX
      have HYR := Aside0.mk hYR
      have HBL := Aside0.mk hb
      have he9 := (HB.out.cell (World.block_lt_of_cell? _ _ he9)).trans he9
      have hf9 := (HB.out.cell (World.block_lt_of_cell? _ _ hf9)).trans hf9
      have hs9 := (HB.out.cell (World.block_lt_of_cell? _ _ hs9)).trans hs9
      have HEc := Aside0.mk he9; have HFc := Aside0.mk hf9
      obtain ⟨gO, rfl⟩ : ∃ gO, gk = gO + 1 := ⟨gk - 1, by have := HG.out; omega⟩
      have hwn : IntKind.i64.wrap ((b : Int) + 1) = ((b + 1 : Nat) : Int) := by rw [hwi]; omega
      clear hcs hce hgap hlast hsl hbin hp hq HLL hse hQ hQr hEX hYR hy hb HL hwn he9 hf9
      go_wp2_with (first | (go_at_call 99; refine (logs_Exp.calls 1000 Q y 0 _ HEX.out).mono ?_; rintro e w4 ⟨rfl, hb_⟩; obtain ⟨q8, hq8⟩ := hb_.out; have hbw := (show Below wr.heap.size wr w4 from (by rw [hq8]; exact pw_below_drewN (Below.refl _ _) _)); have HO4 := Aside0.mk (HO.out.kept (grown_of_below hbw none) (by cases Value.ownBlock _ <;> simp)); have HB4 := Aside0.mk (below_step HB.out hbw); have HE4 := Aside0.mk ((hbw.cell (World.block_lt_of_cell? _ _ HEc.out)).trans HEc.out); have HF4 := Aside0.mk ((hbw.cell (World.block_lt_of_cell? _ _ HFc.out)).trans HFc.out); clear hb_ hq8 hbw))
      have he4 : w4.cell? (ade.add b) = some (.int .i64 (p : Int)) := HE4.out
      have hf4 : w4.cell? ⟨ade.block, ade.off + (b + 1), none⟩ = some (.int .i64 (q : Int)) := by rw [← HF4.out]; rfl
      have he5 : w4.drew.cell? (ade.add b) = some (.int .i64 (p : Int)) := he4
      have hf5 : w4.drew.cell? ⟨ade.block, ade.off + (b + 1), none⟩ = some (.int .i64 (q : Int)) := hf4
      obtain ⟨A1, c1, hcut, hc1, hC1⟩ := seg_cut HRX.out HC0.out (p : Int) (q : Int) (by omega) (by have := HPQ.out; omega) (by have := HPQ.out; omega)
      rw [seg_length HPQ.out.2] at hcut hc1
      have HC1 := Aside0.mk hC1
      rw [seg_length HPQ.out.2] at HC1
      clear hs9 hC1 hc1
      go_region_held3 (fun W => W.cell? (ade.add b) = some (.int .i64 (p : Int)) ∧ W.cell? ⟨ade.block, ade.off + (b + 1), none⟩ = some (.int .i64 (q : Int))) (first | exact ⟨he4, hf4⟩ | exact ⟨he5, hf5⟩) (fail)
      obtain ⟨adx, rfl, hcx⟩ := (reads_int HC1.out).2.2 (by have := HPQ.out; omega)
      have HCX := Aside0.mk hcx
      have HO5 := Aside0.mk (HO4.out.kept (grown_of_below (below_drew (Below.refl w4.heap.size w4)) none) (by cases Value.ownBlock _ <;> simp))
      have HB5 := Aside0.mk (below_drew HB4.out)
      clear he4 hf4 he5 hf5 hcut hcx
      try clear hHeld
      generalize w4.drew = w5 at HO5 HB5 ⊢
      go_wp2
      go_loopg [11, 17, 64, 65, 66, 67, 68, 69, 70, 71, 72, 73, 74, 75, 76, 77, 78] (q - p) (fun kq v11 v17 v64 v65 v66 v67 v68 v69 v70 v71 v72 v73 v74 v75 v76 v77 v78 wx => ∃ (j : Nat) (u : Value) (L' : List Int), v64 = .int .i64 (j : Int) ∧ v11 = u ∧ Aside0 (kq + j = q - p) ∧ Aside0 (L' = T.take (p + j)) ∧ Aside0 (wx.ownsRow w9.heap.size 21 1 u L'.length (nums .i32 L')) ∧ Aside0 (Below w9.heap.size w9 wx))
      case atStart => exact ⟨0, _, L, rfl, rfl, ⟨rfl⟩, ⟨HLP.out⟩, ⟨HO5.out⟩, ⟨HB5.out⟩⟩
      case round =>
        clear HO5 HB5 HO4 HB4 HE4 HF4 HEc HFc HO HB HLN HLP
        obtain ⟨j, u11, L', rfl, rfl, HG2, HL, HO, HB⟩ := hrel
        by_cases hj : j < q - p
        · have hj0 : (0 : Int) ≤ j := by omega
          have hjq : (j : Int) < ((q - p : Nat) : Int) := by omega
          have hx1 := (HB.out.cell (World.block_lt_of_cell? _ _ (HCX.out j hj))).trans (HCX.out j hj)
          rw [seg_at HPQ.out.2 (by omega)] at hx1
          have hvr := HX.out.at (i := ((p + j : Nat) : Int)) (by omega) (by have := HPQ.out; omega)
          rw [rd, Int.toNat_natCast] at hvr
          have htv := HTV.out (p + j) (by omega) (by omega)
          generalize x.getD (p + j) 0 = v at hx1 hvr htv
          have hvw : IntKind.i64.wrap v = v := by rw [i64_w]; unfold wrap64; omega
          have hpr := line_exp hvr.1 hvr.2 HYR.out.1 HYR.out.2
          obtain ⟨P, hP⟩ : ∃ P, P = v * y := ⟨_, rfl⟩
          have hpw : IntKind.i64.wrap (v * y) = P := by rw [← hP, i64_w]; unfold wrap64; rw [← hP] at hpr; omega
          rw [← hP] at hpr htv
          have HRD := Aside0.mk (Round_of hpr.1 hpr.2)
          obtain ⟨R, hR⟩ : ∃ R, R = rnd P 16 := ⟨_, rfl⟩
          rw [← hR] at HRD htv
          have HSD := Aside0.mk (Sat_of R)
          obtain ⟨Z, hZ⟩ : ∃ Z, Z = sat32 R := ⟨_, rfl⟩
          rw [← hZ] at HSD htv
          have HTZ := Aside0.mk htv
          have HJ := Aside0.mk hj
          have HLN := Aside0.mk (show L'.length = p + j from by rw [HL.out, List.length_take, HTL.out]; have := HPQ.out; omega)
          obtain ⟨g0, rfl⟩ : ∃ g0, gk = g0 + 1 := ⟨gk - 1, by have := HG2.out; omega⟩
          have hwj : IntKind.i64.wrap ((j : Int) + 1) = ((j + 1 : Nat) : Int) := by rw [i64_w]; unfold wrap64; have := HPQ.out; have := HN.out; omega
          clear hP hpr hR hZ htv hvr
          go_wp2_with (first | (go_at_call 54; refine (fix_Round.calls P 16 R _ HRD.out).mono ?_; rintro e w6 ⟨rfl, hb_⟩; obtain ⟨q8, hq8⟩ := hb_.out; have hbw := (show Below wr.heap.size wr w6 from (by rw [hq8]; exact pw_below_drewN (Below.refl _ _) _)); have HO6 := Aside0.mk (HO.out.kept (grown_of_below hbw none) (by cases Value.ownBlock _ <;> simp)); have HB6 := Aside0.mk (below_step HB.out hbw); clear hb_ hq8 hbw) | (go_at_call 100; refine (fix_Sat32.calls R Z _ HSD.out).mono ?_; rintro e w7 ⟨rfl, hb_⟩; obtain ⟨q8, hq8⟩ := hb_.out; have hbw := (show Below w6.heap.size w6 w7 from (by rw [hq8]; exact pw_below_drewN (Below.refl _ _) _)); have HO7 := Aside0.mk (HO6.out.kept (grown_of_below hbw none) (by cases Value.ownBlock _ <;> simp)); have HB7 := Aside0.mk (below_step HB6.out hbw); clear hb_ hq8 hbw) | (at_builtin; refine print_append_num (w0 := w9) w9.heap.size rfl (.tmp 68) (.tmp 76) 41 21 .i32 4 rfl Try.underlying41 info_i32 (by decide) u11 L' Z rfl rfl HO7.out HB7.out (below_size HB7.out) (by rw [HLN.out]; have := HPQ.out; have := HN.out; have := HJ.out; omega) ?_; intro v1 w8 g1 g2 g3 g4; have HO8 := Aside0.mk g1; have HB8 := Aside0.mk g2; clear g1 g2 g3 g4))
          go_roundg g0
          case measure => omega
          case rel => exact ⟨j + 1, _, _, by first | rfl | (congr 1; push_cast; rfl), rfl, ⟨by have := HG2.out; omega⟩, ⟨by rw [HL.out, ← HTZ.out, take_next (by rw [HTL.out]; have := HPQ.out; have := HJ.out; omega), Nat.add_assoc]⟩, HO8, HB8⟩
        · have hjq : ¬ ((j : Int) < ((q - p : Nat) : Int)) := by omega
          have hjj : j = q - p := by have := HG2.out; omega
          have HLQ := Aside0.mk (show L' = T.take (E.getD (b + 1) 0).toNat from by rw [HL.out, HQE.out, Int.toNat_natCast, hjj]; congr 1; have := HPQ.out; omega)
          have hwn : IntKind.i64.wrap ((b : Int) + 1) = ((b + 1 : Nat) : Int) := by rw [i64_w]; unfold wrap64; have := HBL.out; omega
          clear hjj hj
          go_wp2
          go_roundg gO
          case measure => omega
          case rel => exact ⟨b + 1, _, L', by first | rfl | (congr 1; push_cast; rfl), rfl, ⟨by have := HG.out; omega⟩, HLQ, HO, HB⟩
    · obtain rfl : b = 8 := by have := HG.out; omega
      have HLT := Aside0.mk (show L = T from by rw [HL.out, HEE.out, show (edE x).getD 8 0 = (x.length : Int) from (edges_ok _ HE.out).2.2.1, Int.toNat_natCast, List.take_of_length_le (by rw [HTL.out]; exact Nat.le_refl _)])
      obtain ⟨Al, cl, eL⟩ := own_slice HO.out
      subst eL
      rw [show L.length = x.length from by rw [HLT.out, HTL.out]] at HO ⊢
      go_wp2
      exact bodyPost_ret (v := .tuple #[.slice Al x.length cl, .int .i64 0]) (by simp [results, Try.results75, go_sem]) rfl ⟨_, _, rfl, by rw [← HT.out, ← HLT.out]; exact own_lower HO.out (below_size HB9.out), below_step HB9.out HB.out⟩
set_option maxRecDepth 100000 in
theorem shape_turned.noBlock (A0 : Option Addr) (c0 : Nat) (x : List Int) (c : Int) (r : List Int) (sgn : Int) (w : World) (he : edE x = []) (hr : r.length = 8) :
    Calls Try.prog 75 #[.slice A0 x.length c0, shapeV c r, .int .i32 sgn] w fun e w' => e = .returned (.tuple #[.slice none 0 0, .int .i64 1]) ∧ Below w.heap.size w w' := by
  have HEC := Aside0.mk (Edges_no x he)
  obtain ⟨r0, r1, r2, r3, r4, r5, r6, r7, rfl⟩ := eight hr
  clear he hr
  have HBB := Aside0.mk (below_alloc (Below.refl w.heap.size w) (.cells #[.int .i64 c, .int .i64 r0, .int .i64 r1, .int .i64 r2, .int .i64 r3, .int .i64 r4, .int .i64 r5, .int .i64 r6, .int .i64 r7] 51))
  unfold shapeV
  simp only [nums, List.map]
  go_enter Try.func75, Try.ntmps75
  go_wp2_with (first | (go_at_call 89; refine (band_Edges.calls _ [] 1 _ HEC.out).mono ?_; rintro e w2 ⟨v2_, rfl, g1, g2⟩; have HB2 := Aside0.mk (below_step HBB.out g2); clear g1 g2))
  exact bodyPost_ret (v := .tuple #[.slice none 0 0, .int .i64 1]) (by simp [results, Try.results75, go_sem]) rfl ⟨rfl, HB2.out⟩
set_option maxRecDepth 100000 in
theorem shape_turned.noShape (A0 : Option Addr) (c0 : Nat) (x : List Int) (c : Int) (r : List Int) (sgn : Int) (w : World) (he : edE x ≠ []) (hr : r.length = 8) (hk : ¬ okShape c r) :
    Calls Try.prog 75 #[.slice A0 x.length c0, shapeV c r, .int .i32 sgn] w fun e w' => e = .returned (.tuple #[.slice none 0 0, .int .i64 1]) ∧ Below w.heap.size w w' := by
  have HEC := Aside0.mk (Edges_of x he)
  have HSY := Aside0.mk (fun w_ => shape_Says.no c r hr hk w_)
  obtain ⟨r0, r1, r2, r3, r4, r5, r6, r7, rfl⟩ := eight hr
  clear he hr hk
  have HBB := Aside0.mk (below_alloc (Below.refl w.heap.size w) (.cells #[.int .i64 c, .int .i64 r0, .int .i64 r1, .int .i64 r2, .int .i64 r3, .int .i64 r4, .int .i64 r5, .int .i64 r6, .int .i64 r7] 51))
  have HBX := Aside0.mk (blk_new w (.cells #[.int .i64 c, .int .i64 r0, .int .i64 r1, .int .i64 r2, .int .i64 r3, .int .i64 r4, .int .i64 r5, .int .i64 r6, .int .i64 r7] 51))
  unfold shapeV at HSY ⊢
  simp only [nums, List.map] at HSY ⊢
  go_enter Try.func75, Try.ntmps75
  go_wp2_with (first | (go_at_call 89; refine (band_Edges.calls _ _ 0 _ HEC.out).mono ?_; rintro e w2 ⟨v2_, rfl, g1, g2⟩; have HB2 := Aside0.mk (below_step HBB.out g2); have HX2 := Aside0.mk (box_later HBX.out g2); have x0 := (blk_cell HX2.out 0).trans rfl; have x1 := (blk_cell HX2.out 1).trans rfl; have x2 := (blk_cell HX2.out 2).trans rfl; have x3 := (blk_cell HX2.out 3).trans rfl; have x4 := (blk_cell HX2.out 4).trans rfl; have x5 := (blk_cell HX2.out 5).trans rfl; have x6 := (blk_cell HX2.out 6).trans rfl; have x7 := (blk_cell HX2.out 7).trans rfl; have x8 := (blk_cell HX2.out 8).trans rfl; clear g1 g2) | (go_at_call 36; refine (HSY.out _).mono ?_; rintro e w3 ⟨rfl, hb_⟩; have HB3 := Aside0.mk (below_step HB2.out hb_); clear hb_))
  exact bodyPost_ret (v := .tuple #[.slice none 0 0, .int .i64 1]) (by simp [results, Try.results75, go_sem]) rfl ⟨rfl, HB3.out⟩
theorem shape_turned.no (A0 : Option Addr) (c0 : Nat) (x : List Int) (c : Int) (r : List Int) (sgn : Int) (w : World) (hr : r.length = 8) (h : edE x = [] ∨ ¬ okShape c r) :
    Calls Try.prog 75 #[.slice A0 x.length c0, shapeV c r, .int .i32 sgn] w fun e w' => e = .returned (.tuple #[.slice none 0 0, .int .i64 1]) ∧ Below w.heap.size w w' := by
  by_cases he : edE x = []
  · exact shape_turned.noBlock A0 c0 x c r sgn w he hr
  · exact shape_turned.noShape A0 c0 x c r sgn w he hr (h.resolve_left he)
set_option maxRecDepth 100000 in
theorem shape_Even.calls (A0 : Option Addr) (c0 : Nat) (x : List Int) (c : Int) (r : List Int) (w : World) (hr0 : Kd.C (Kd.int .i32) w A0 x.length x) (hc0 : x.length ≤ c0) (hx : Lines x) (he : edE x ≠ []) (hr : r.length = 8) (hk : okShape c r) :
    Calls Try.prog 37 #[.slice A0 x.length c0, shapeV c r] w fun e w' => ∃ A cap, e = .returned (.tuple #[.slice A x.length cap, .int .i64 0]) ∧ w'.ownsRow w.heap.size 21 1 (.slice A x.length cap) x.length (nums .i32 (turnL x (saysL c r) (-1))) ∧ Below w.heap.size w w' := by
  have HT := Aside0.mk (fun W g1 => shape_turned.calls A0 c0 x c r (-1) W g1 hc0 hx he hr hk (by decide))
  generalize turnL x (saysL c r) (-1) = T at HT ⊢
  obtain ⟨r0, r1, r2, r3, r4, r5, r6, r7, rfl⟩ := eight hr
  have HBB := Aside0.mk (below_alloc (Below.refl w.heap.size w) (.cells #[.int .i64 c, .int .i64 r0, .int .i64 r1, .int .i64 r2, .int .i64 r3, .int .i64 r4, .int .i64 r5, .int .i64 r6, .int .i64 r7] 51))
  have HRA := Aside0.mk (Kd.C_below hr0 HBB.out)
  clear hr0 hc0 hx he hr hk
  unfold shapeV at HT ⊢
  simp only [nums, List.map] at HT ⊢
  go_enter Try.func37, Try.ntmps37
  go_wp2_with (first | (go_at_call 75; refine (HT.out _ HRA.out).mono ?_; rintro e w2 ⟨A, cap, rfl, g1, g2⟩; have HO := Aside0.mk (own_lower g1 (below_size HBB.out)); have HB2 := Aside0.mk (below_step HBB.out g2); clear g1 g2))
  exact bodyPost_ret (v := .tuple #[.slice A x.length cap, .int .i64 0]) (by simp [results, Try.results37, go_sem]) rfl ⟨_, _, rfl, HO.out, HB2.out⟩
set_option maxRecDepth 100000 in
theorem shape_Even.no (A0 : Option Addr) (c0 : Nat) (x : List Int) (c : Int) (r : List Int) (w : World) (hr : r.length = 8) (h : edE x = [] ∨ ¬ okShape c r) :
    Calls Try.prog 37 #[.slice A0 x.length c0, shapeV c r] w fun e w' => e = .returned (.tuple #[.slice none 0 0, .int .i64 1]) ∧ Below w.heap.size w w' := by
  have HT := Aside0.mk (fun W => shape_turned.no A0 c0 x c r (-1) W hr h)
  obtain ⟨r0, r1, r2, r3, r4, r5, r6, r7, rfl⟩ := eight hr
  have HBB := Aside0.mk (below_alloc (Below.refl w.heap.size w) (.cells #[.int .i64 c, .int .i64 r0, .int .i64 r1, .int .i64 r2, .int .i64 r3, .int .i64 r4, .int .i64 r5, .int .i64 r6, .int .i64 r7] 51))
  clear hr h
  unfold shapeV at HT ⊢
  simp only [nums, List.map] at HT ⊢
  go_enter Try.func37, Try.ntmps37
  go_wp2_with (first | (go_at_call 75; refine (HT.out _).mono ?_; rintro e w2 ⟨rfl, g2⟩; have HB2 := Aside0.mk (below_step HBB.out g2); clear g2))
  exact bodyPost_ret (v := .tuple #[.slice none 0 0, .int .i64 1]) (by simp [results, Try.results37, go_sem]) rfl ⟨rfl, HB2.out⟩
set_option maxRecDepth 100000 in
theorem shape_Uneven.calls (A0 : Option Addr) (c0 : Nat) (x : List Int) (c : Int) (r : List Int) (w : World) (hr0 : Kd.C (Kd.int .i32) w A0 x.length x) (hc0 : x.length ≤ c0) (hx : Lines x) (he : edE x ≠ []) (hr : r.length = 8) (hk : okShape c r) :
    Calls Try.prog 39 #[.slice A0 x.length c0, shapeV c r] w fun e w' => ∃ A cap, e = .returned (.tuple #[.slice A x.length cap, .int .i64 0]) ∧ w'.ownsRow w.heap.size 21 1 (.slice A x.length cap) x.length (nums .i32 (turnL x (saysL c r) 1)) ∧ Below w.heap.size w w' := by
  have HT := Aside0.mk (fun W g1 => shape_turned.calls A0 c0 x c r 1 W g1 hc0 hx he hr hk (by decide))
  generalize turnL x (saysL c r) 1 = T at HT ⊢
  obtain ⟨r0, r1, r2, r3, r4, r5, r6, r7, rfl⟩ := eight hr
  have HBB := Aside0.mk (below_alloc (Below.refl w.heap.size w) (.cells #[.int .i64 c, .int .i64 r0, .int .i64 r1, .int .i64 r2, .int .i64 r3, .int .i64 r4, .int .i64 r5, .int .i64 r6, .int .i64 r7] 51))
  have HRA := Aside0.mk (Kd.C_below hr0 HBB.out)
  clear hr0 hc0 hx he hr hk
  unfold shapeV at HT ⊢
  simp only [nums, List.map] at HT ⊢
  go_enter Try.func39, Try.ntmps39
  go_wp2_with (first | (go_at_call 75; refine (HT.out _ HRA.out).mono ?_; rintro e w2 ⟨A, cap, rfl, g1, g2⟩; have HO := Aside0.mk (own_lower g1 (below_size HBB.out)); have HB2 := Aside0.mk (below_step HBB.out g2); clear g1 g2))
  exact bodyPost_ret (v := .tuple #[.slice A x.length cap, .int .i64 0]) (by simp [results, Try.results39, go_sem]) rfl ⟨_, _, rfl, HO.out, HB2.out⟩
set_option maxRecDepth 100000 in
theorem shape_Uneven.no (A0 : Option Addr) (c0 : Nat) (x : List Int) (c : Int) (r : List Int) (w : World) (hr : r.length = 8) (h : edE x = [] ∨ ¬ okShape c r) :
    Calls Try.prog 39 #[.slice A0 x.length c0, shapeV c r] w fun e w' => e = .returned (.tuple #[.slice none 0 0, .int .i64 1]) ∧ Below w.heap.size w w' := by
  have HT := Aside0.mk (fun W => shape_turned.no A0 c0 x c r 1 W hr h)
  obtain ⟨r0, r1, r2, r3, r4, r5, r6, r7, rfl⟩ := eight hr
  have HBB := Aside0.mk (below_alloc (Below.refl w.heap.size w) (.cells #[.int .i64 c, .int .i64 r0, .int .i64 r1, .int .i64 r2, .int .i64 r3, .int .i64 r4, .int .i64 r5, .int .i64 r6, .int .i64 r7] 51))
  clear hr h
  unfold shapeV at HT ⊢
  simp only [nums, List.map] at HT ⊢
  go_enter Try.func39, Try.ntmps39
  go_wp2_with (first | (go_at_call 75; refine (HT.out _).mono ?_; rintro e w2 ⟨rfl, g2⟩; have HB2 := Aside0.mk (below_step HBB.out g2); clear g2))
  exact bodyPost_ret (v := .tuple #[.slice none 0 0, .int .i64 1]) (by simp [results, Try.results39, go_sem]) rfl ⟨rfl, HB2.out⟩
end Go.Proofs.Ytblehkoonajofaa.PShape
