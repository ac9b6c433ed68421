/- Shape: the shape that the reference finds. -/
import Derived.Test.YtblehkoonajofaaShapeRefSays
import Derived.Test.YtblehkoonajofaaFixBaseShape
namespace Go.Proofs.Ytblehkoonajofaa.PShape
open Go.RowKit Go.Proofs.YtblehkoonajofaaW.PrintWords Go.Proofs.YtblehkoonajofaaW.PrintLast Go.Proofs.YtblehkoonajofaaW.PrintMore Go.Proofs.Ytblehkoonajofaa.RowAt
attribute [local go_sem] max2_int min2_int max_two min_two max_three min_three max_four min_four   -- for this text's walks alone
set_option linter.unusedVariables false
set_option linter.unusedSimpArgs false
theorem own_vs {w : World} {B B' e e' size size' n n' : Nat} {v v' : Value} {xs xs' : List Value} (h : w.ownsRow B e size v n xs) (h' : w.ownsRow B' e' size' v' n' xs') (hne : e ≠ e') : v.ownBlock = none ∨ v.ownBlock ≠ v'.ownBlock := by
  rcases h.2 with ⟨rfl, _⟩ | ⟨g, cap, cur, rfl, _, hgg, _⟩
  · exact .inl rfl
  · exact .inr (own_ne h' hgg (Ne.symm hne))
structure RI (w wx : World) (Al : Option Addr) (cl : Nat) (l : List Int) (u : Value) (L : List Int) : Prop where
  z : wx.heap[w.heap.size]? = some (.cells (.int .i64 0 :: nums .i64 z8).toArray 55 (0, 0))
  lr : wx.ownsRow w.heap.size 90 1 (.slice Al 8 cl) 8 (nums .u64 l)
  al : wx.ownsRow w.heap.size 3 1 u L.length (nums .i64 L)
  be : Below w.heap.size w wx
section
variable {w wx wy : World} {l L : List Int} {Al : Option Addr} {cl : Nat} {u : Value}
theorem RI.later (h : RI w wx Al cl l u L) (hb : Below wx.heap.size wx wy) : RI w wy Al cl l u L :=
  ⟨box_later h.z hb, h.lr.kept (grown_of_below hb none) (by cases Value.ownBlock _ <;> simp), h.al.kept (grown_of_below hb none) (by cases Value.ownBlock _ <;> simp), below_step h.be hb⟩
theorem RI.drew (h : RI w wx Al cl l u L) : RI w wx.drew Al cl l u L := h.later (below_drew (Below.refl _ _))
theorem RI.lat (h : RI w wx Al cl l u L) {i : Nat} (hi : i < 8) : ∃ ad, Al = some ad ∧ wx.cell? (ad.add i) = some (.int .u64 (l.getD i 0)) := by
  obtain ⟨ad, eA, hc⟩ := (own_reads' h.lr).2.2 (by omega)
  exact ⟨ad, eA, hc i hi⟩
theorem RI.grow (h : RI w wx Al cl l u L) {M : List Int} {v : Value} (g1 : wy.ownsRow w.heap.size 3 1 v M.length (nums .i64 M)) (g2 : Below w.heap.size w wy) (g3 : wx.grownBy wy u.ownBlock) : RI w wy Al cl l v M := by
  have hne := own_ne h.al h.z (by decide)
  refine ⟨(g3.block _ (blk_lt h.z) hne).trans h.z, ?_, g1, g2⟩
  exact h.lr.kept g3 (own_vs h.lr h.al (by decide))
end
/-- What the reference's edges and logs of these energies come to. -/
structure RFacts (k n : Nat) (l E q h : List Int) : Prop where
  ed : ∀ i : Nat, i ≤ 8 → psalteryref15_Edge.f (n : Int) (i : Int) = some (E.getD i 0)
  lg : ∀ i, i < 8 → psalteryref02_Log.f k (l.getD i 0 / (E.getD (i + 1) 0 - E.getD i 0) + 1) = some (q.getD i 0, 0)
theorem take_next {h : List Int} {i : Nat} (hi : i < h.length) : h.take i ++ [h.getD i 0] = h.take (i + 1) := by
  rw [List.take_add_one, List.getElem?_eq_getElem hi, List.getD_eq_getElem?_getD, List.getElem?_eq_getElem hi]; rfl
structure RS (w : World) (b7 : Nat) (Ah : Option Addr) (ch : Nat) (h : List Int) (s : Nat) (R : List Int) (wx : World) : Prop where
  z : wx.heap[w.heap.size]? = some (.cells (.int .i64 0 :: nums .i64 z8).toArray 55 (0, 0))
  s : wx.heap[b7]? = some (.cells (.int .i64 s :: nums .i64 R).toArray 55 (0, 0))
  al : wx.ownsRow w.heap.size 3 1 (.slice Ah 8 ch) 8 (nums .i64 h)
  be : Below w.heap.size w wx
section
variable {w wx wy : World} {b7 ch s : Nat} {Ah : Option Addr} {h R : List Int}
theorem RS.later (g : RS w b7 Ah ch h s R wx) (hb : Below wx.heap.size wx wy) : RS w b7 Ah ch h s R wy :=
  ⟨box_later g.z hb, box_later g.s hb, g.al.kept (grown_of_below hb none) (by cases Value.ownBlock _ <;> simp), below_step g.be hb⟩
theorem RS.drew (g : RS w b7 Ah ch h s R wx) : RS w b7 Ah ch h s R wx.drew := g.later (below_drew (Below.refl _ _))
theorem RS.hat (g : RS w b7 Ah ch h s R wx) {i : Nat} (hi : i < 8) : ∃ ad, Ah = some ad ∧ wx.cell? (ad.add i) = some (.int .i64 (h.getD i 0)) := by
  obtain ⟨ad, eA, hc⟩ := (own_reads' g.al).2.2 (by omega)
  exact ⟨ad, eA, hc i hi⟩
theorem RS.code (g : RS w b7 Ah ch h s R wx) : wx.cell? ⟨b7, 0, none⟩ = some (.int .i64 s) := by rw [blk_cell g.s]; rfl
theorem RS.setS (g : RS w b7 Ah ch h s R wx) (hb : w.heap.size < b7) (c : Nat) : RS w b7 Ah ch h c R (wx.setCell ⟨b7, 0, none⟩ (.int .i64 c)) := by
  refine ⟨(Below.heap_setCell _ _ _ _ (by dsimp; omega)).trans g.z, ?_, own_setCell (p := ⟨b7, 0, none⟩) g.al (own_ne g.al g.s (by decide)) _, g.be.setCell (by dsimp; omega) _⟩
  have h1 := blk_set g.s 0 (.int .i64 c)
  rw [h1]; simp
theorem RS.setR (g : RS w b7 Ah ch h s R wx) (hb : w.heap.size < b7) (i : Nat) (v : Int) : RS w b7 Ah ch h s (R.set i v) (wx.setCell ⟨b7, 1 + i, none⟩ (.int .i64 v)) := by
  refine ⟨(Below.heap_setCell _ _ _ _ (by dsimp; omega)).trans g.z, ?_, own_setCell (p := ⟨b7, 1 + i, none⟩) g.al (own_ne g.al g.s (by decide)) _, g.be.setCell (by dsimp; omega) _⟩
  have h1 := blk_set g.s (1 + i) (.int .i64 v)
  rw [h1, Nat.add_comm]; simp [nums, List.map_set]
end
def bestV (D : List Int) : Nat → Int
  | 0 => -1
  | c+1 => far D (rowOf (bestUpto D (c + 1)))
set_option maxRecDepth 100000 in
set_option maxHeartbeats 16000000 in
theorem ref_Find.calls (k : Nat) (A0 : Option Addr) (c0 : Nat) (x l E q h D : List Int) (w : World) (hr0 : Kd.C (Kd.int .i32) w A0 x.length x) (hc0 : x.length ≤ c0)
    (hl : psalteryref15_Energies.f k x = some l) (hf : LFacts k l E q h) (hrf : RFacts k x.length l E q h) (hD : D = loudL h) (hDs : small D) :
    Calls Try.prog 27 #[.slice A0 x.length c0] w fun e w' => e = .returned (shapeV (bestUpto D 16) (restL D (bestUpto D 16))) ∧ Below w.heap.size w w' := by
  have HR0 := Aside0.mk hr0; have HC0 := Aside0.mk hc0; have HL := Aside0.mk hl; have HF := Aside0.mk hf; have HRF := Aside0.mk hrf
  have HD := Aside0.mk hD; have HDS := Aside0.mk hDs
  clear hr0 hc0 hl hf hrf hD hDs
  have HBB := Aside0.mk (below_alloc (Below.refl w.heap.size w) (.cells (.int .i64 0 :: nums .i64 z8).toArray 55))
  have HBX := Aside0.mk (blk_new w (.cells (.int .i64 0 :: nums .i64 z8).toArray 55))
  have HRA := Aside0.mk (Kd.C_below HR0.out (below_alloc (Below.refl w.heap.size w) (.cells (.int .i64 0 :: nums .i64 z8).toArray 55)))
  go_enter Try.func27, Try.ntmps27
  go_wp2_with (first | (go_at_call 62; refine (psalteryref15_Energies.calls k A0 c0 x l _ HRA.out HC0.out HL.out).mono ?_; rintro e w1 ⟨v1_, rfl, g1, g2⟩; obtain ⟨Al, cl, rfl⟩ := Kd.R_slice g1; have HI := Aside0.mk (show RI w w1 Al cl l (.slice none 0 0) [] from ⟨box_later HBX.out g2, (by have g3 := Kd.own_of_R g1; rw [HF.out.l8] at g3; exact own_lower g3 (by rw [World.size_alloc]; omega)), own_nil _ _ _ _, below_step HBB.out g2⟩); rw [HF.out.l8]; clear g1 g2))
  clear HBB HBX HRA HR0 HC0 HL
  go_loopg [5, 6, 7, 8, 9, 10, 24, 25, 26, 27, 28, 29, 30, 31, 32, 33, 34, 35, 36, 37, 38, 39, 40, 41, 42, 43, 44, 45, 46, 47, 48, 49, 50, 51, 52, 53, 54, 55, 56, 57, 58] 8 (fun kq v5 v6 v7 v8 v9 v10 v24 v25 v26 v27 v28 v29 v30 v31 v32 v33 v34 v35 v36 v37 v38 v39 v40 v41 v42 v43 v44 v45 v46 v47 v48 v49 v50 v51 v52 v53 v54 v55 v56 v57 v58 wx => ∃ (i : Nat) (u : Value), v7 = .int .i64 (i : Int) ∧ v5 = u ∧ v6 = .int .i64 (sumUpto h i) ∧ Aside0 (kq + i = 8) ∧ Aside0 (RI w wx Al cl l u (h.take i)))
  case atStart => exact ⟨0, _, rfl, rfl, rfl, ⟨rfl⟩, HI⟩
  case round =>
    clear HI
    obtain ⟨i, u5, rfl, rfl, rfl, HG, HI⟩ := hrel
    by_cases hi : i < 8
    · have hi0 : (0 : Int) ≤ i := by omega
      have hi8 : (i : Int) < 8 := by omega
      have hwi : IntKind.i64.wrap ((i : Int) + 1) = (i : Int) + 1 := by rw [i64_w]; unfold wrap64; omega
      obtain ⟨adl, rfl, hcl⟩ := HI.out.lat hi
      have hlb := HF.out.lb i
      have heb := HF.out.eb i hi
      have hqb := HF.out.qb i
      have hlg := HRF.out.lg i hi
      have he0 := HRF.out.ed i (by omega)
      have he1 := HRF.out.ed (i + 1) (by omega)
      rw [show ((i + 1 : Nat) : Int) = (i : Int) + 1 from by omega] at he1
      generalize l.getD i 0 = li at hcl hlb hlg
      generalize E.getD i 0 = e0 at he0 heb hlg
      generalize E.getD (i + 1) 0 = e1 at he1 heb hlg
      obtain ⟨qi, hqi⟩ : ∃ qi, qi = q.getD i 0 := ⟨_, rfl⟩
      rw [← hqi] at hqb hlg
      have HQI := Aside0.mk hqi
      have HII := Aside0.mk hi
      have HE0 := Aside0.mk he0
      have HE1 := Aside0.mk he1
      clear hqi he0 he1
      obtain ⟨W, hW⟩ : ∃ W, W = e1 - e0 := ⟨_, rfl⟩
      have hW2 : 2 ≤ W ∧ W ≤ 120 := by omega
      have hw1 : IntKind.i64.wrap (e1 - e0) = W := by rw [i64_w]; unfold wrap64; omega
      have hw2 : IntKind.u64.wrap W = W := by rw [IntKind.wrap]; simp [IntKind.bits, IntKind.signed]; omega
      have hWn : W ≠ 0 := by omega
      have hWb : (W == 0) = false := by simp [hWn]
      obtain ⟨Q, hQ⟩ : ∃ Q, Q = li / W := ⟨_, rfl⟩
      have hq : Int.tdiv li W = Q := by rw [hQ, Int.tdiv_eq_ediv_of_nonneg hlb.1]
      have hQ2 : 0 ≤ Q ∧ Q ≤ 9223372036854775808 := by
        constructor
        · rw [hQ]; exact Int.ediv_nonneg hlb.1 (by omega)
        · rw [hQ]; exact Int.le_trans (Int.ediv_le_ediv (by omega) hlb.2) (by
            have t0 := Int.mul_ediv_self_le (x := (18446744073709551615 : Int)) (k := W) (by omega)
            have t1 : 0 ≤ (18446744073709551615 : Int) / W := Int.ediv_nonneg (by decide) (by omega)
            have t2 : 2 * ((18446744073709551615 : Int) / W) ≤ W * ((18446744073709551615 : Int) / W) := Int.mul_le_mul_of_nonneg_right hW2.1 t1
            generalize (18446744073709551615 : Int) / W = t at t0 t1 t2 ⊢
            generalize W * t = wt at t0 t2
            omega)
      have hu : IntKind.u64.wrap Q = Q := by rw [IntKind.wrap]; simp [IntKind.bits, IntKind.signed]; omega
      have hu1 : IntKind.u64.wrap (Q + 1) = Q + 1 := by rw [IntKind.wrap]; simp [IntKind.bits, IntKind.signed]; omega
      rw [← hW, ← hQ] at hlg
      have HLG2 := Aside0.mk hlg
      clear hlg hQ hW
      obtain ⟨H, hHe⟩ : ∃ H, H = h.getD i 0 := ⟨_, rfl⟩
      have hd1 : Int.tdiv qi 2 = H := by rw [hHe, HF.out.h_at HII.out, ← HQI.out]
      have hHb : 0 ≤ H ∧ H ≤ 10000 := by rw [hHe]; exact HF.out.hb i
      have hd3 : IntKind.i64.wrap H = H := by rw [i64_w]; unfold wrap64; omega
      have hd5 : IntKind.i64.wrap qi = qi := by rw [i64_w]; unfold wrap64; omega
      have hsb := sumUpto_b (fun j => HF.out.hb j) i
      have hd4 : IntKind.i64.wrap (sumUpto h i + H) = sumUpto h i + H := by rw [i64_w]; unfold wrap64; omega
      have HSS := Aside0.mk (show sumUpto h (i + 1) = sumUpto h i + H by rw [hHe]; rfl)
      have HHE := Aside0.mk hHe
      have HTL := Aside0.mk (show (h.take i).length = i by rw [List.length_take, HF.out.h8]; omega)
      obtain ⟨L, hL⟩ : ∃ L, L = h.take i := ⟨_, rfl⟩
      rw [← hL] at HI HTL
      have HLL := Aside0.mk hL
      have hcl1 : ∀ wz, Below wr.heap.size wr wz → wz.cell? (adl.add i) = some (.int .u64 li) := fun wz hb => (hb.cell (World.block_lt_of_cell? _ _ hcl)).trans hcl
      have HCL1 := Aside0.mk hcl1
      clear hHe hL hcl1
      have HB0 := Aside0.mk (Below.refl wr.heap.size wr)
      go_wp2_with (first | (go_at_call 63; refine (psalteryref15_Edge.calls _ _ _ _ (by first | exact HE1.out | exact HE0.out)).mono ?_; rintro e w2 ⟨rfl, hb_⟩; have HB1 := Aside0.mk (show Below wr.heap.size wr w2 from (by first | exact below_step HB1.out hb_ | exact below_step HB0.out hb_)); have hcl1 := HCL1.out _ HB1.out; clear hb_) | (go_at_call 64; refine (psalteryref02_Log.calls k (Q + 1) qi 0 _ HLG2.out).mono ?_; rintro e w3 ⟨rfl, hb_⟩; obtain ⟨q8, hq8⟩ := hb_.out; have HI3 := Aside0.mk (show RI w w3 (some adl) cl l u5 L from (by rw [hq8]; exact (HI.out.later HB1.out).later (pw_below_drewN (Below.refl _ _) _))); clear hb_ hq8) | (at_builtin; refine print_append_num (w0 := w) w.heap.size rfl (.tmp 48) (.tmp 52) 108 3 .i64 8 rfl Try.underlying108 info3 (by decide) u5 L H rfl rfl HI3.out.al HI3.out.be (below_size HI3.out.be) (by rw [HTL.out]; have := HII.out; omega) ?_; intro v1 w5 g1 g2 g3 g4; have HI5 := Aside0.mk (HI3.out.grow g1 g2 g3); clear g1 g2 g3 g4))
      obtain ⟨g0, rfl⟩ : ∃ g0, gk = g0 + 1 := ⟨gk - 1, by have := HG.out; have := HII.out; omega⟩
      go_roundg g0
      case measure => omega
      case rel => exact ⟨i + 1, _, by first | rfl | (congr 1; push_cast; rfl), rfl, by rw [HSS.out], ⟨by have := HG.out; omega⟩, ⟨by rw [← take_next (by rw [HF.out.h8]; exact HII.out), ← HLL.out, ← HHE.out]; exact HI5.out⟩⟩
    · obtain rfl : i = 8 := by have := HG.out; omega
      have HI2 := Aside0.mk (show RI w wr Al cl l u5 h from by have h1 := HI.out; rw [List.take_of_length_le (by rw [HF.out.h8]; exact Nat.le_refl _)] at h1; exact h1)
      have HSB := Aside0.mk (sumUpto_b (fun j => HF.out.hb j) 8)
      have HLA := Aside0.mk (fun (j : Nat) (hj : j < 8) => loudL_at (h := h) (i := j) (by rw [HF.out.h8]; exact hj))
      obtain ⟨T, hT⟩ : ∃ T, T = sumUpto h 8 := ⟨_, rfl⟩
      rw [← hT] at HSB HLA ⊢
      rw [← HD.out] at HLA
      have HHB := Aside0.mk (fun j => HF.out.hb j)
      have H8 := Aside0.mk HF.out.h8
      clear HI hT HG hi HRF
      obtain ⟨Ah, ch, eL⟩ := own_slice HI2.out.al
      subst eL
      rw [H8.out] at HI2 ⊢
      have hsz := below_size HI2.out.be
      have HSZ := Aside0.mk hsz
      clear hsz
      go_wp2_with (first | (refine wpList_store_row rfl 55 _ _ rfl wr.heap.size (.int .i64 0 :: nums .i64 z8).toArray rfl rfl 55 (.int .i64 0 :: nums .i64 z8).toArray (blk_new wr _) (by kernel_rfl) (by kernel_rfl) (by kernel_rfl) ?_))
      have hba := below_alloc (Below.refl wr.heap.size wr) (.cells (.int .i64 0 :: nums .i64 z8).toArray 55)
      have hsr := setRow_heap (wr.alloc (.cells (.int .i64 0 :: nums .i64 z8).toArray 55)) wr.heap.size (.int .i64 0 :: nums .i64 z8).toArray (.int .i64 0 :: nums .i64 z8).toArray 55 (0, 0) (blk_new wr _)
      have hbs := below_setRow hba (Nat.le_refl _) (.int .i64 0 :: nums .i64 z8).toArray
      change Code.wp _ _ _ _ ((wr.alloc (.cells (.int .i64 0 :: nums .i64 z8).toArray 55)).setRow wr.heap.size (.int .i64 0 :: nums .i64 z8).toArray)
      generalize (wr.alloc (.cells (.int .i64 0 :: nums .i64 z8).toArray 55)).setRow wr.heap.size (.int .i64 0 :: nums .i64 z8).toArray = w9 at hsr hbs ⊢
      have HS0 := Aside0.mk (show RS w wr.heap.size Ah ch h 0 z8 w9 from ⟨box_later HI2.out.z hbs, hsr, (by have t_ := HI2.out.al; rw [H8.out] at t_; exact t_.kept (grown_of_below hbs none) (by cases Value.ownBlock _ <;> simp)), below_step HI2.out.be hbs⟩)
      clear hsr hbs
      have HLT := Aside0.mk (show w.heap.size < wr.heap.size from blk_lt HI2.out.z)
      generalize wr.heap.size = b7 at HS0 HLT ⊢
      clear hba HI2 HSZ
      go_loopg [11, 13, 14, 15, 16, 60, 61, 62, 63, 64, 65, 66, 67, 68, 69, 70, 71, 72, 73, 74, 75, 76, 77, 78, 79, 80, 81, 82, 83, 84, 85, 86, 87, 88, 89, 90, 91, 92, 93, 94, 95, 96, 97] 16 (fun kq v11 v13 v14 v15 v16 v60 v61 v62 v63 v64 v65 v66 v67 v68 v69 v70 v71 v72 v73 v74 v75 v76 v77 v78 v79 v80 v81 v82 v83 v84 v85 v86 v87 v88 v89 v90 v91 v92 v93 v94 v95 v96 v97 wx => ∃ c : Nat, v13 = .int .i64 (c : Int) ∧ v11 = .int .i64 (bestV D c) ∧ Aside0 (kq + c = 16) ∧ Aside0 (RS w b7 Ah ch h (bestUpto D c) z8 wx))
      case atStart => exact ⟨0, rfl, rfl, ⟨rfl⟩, HS0⟩
      case round =>
        clear HS0
        obtain ⟨c, rfl, rfl, HG, HS⟩ := hrel
        by_cases hc : c < 16
        · have hc0 : (0 : Int) ≤ c := by omega
          have hc16 : (c : Int) < 16 := by omega
          have HCC := Aside0.mk hc
          obtain ⟨s, hs⟩ : ∃ s, s = bestUpto D c := ⟨_, rfl⟩
          rw [← hs] at HS
          have HSE := Aside0.mk hs
          obtain ⟨bv, hbv⟩ : ∃ bv, bv = bestV D c := ⟨_, rfl⟩
          rw [← hbv]
          have HBV := Aside0.mk hbv
          have HBK := Aside0.mk (fun W => ref_Book.row (c : Int) (by omega) (by omega) W)
          rw [Int.toNat_natCast] at HBK
          obtain ⟨row, hrow⟩ : ∃ row, row = rowOf c := ⟨_, rfl⟩
          rw [← hrow] at HBK
          have HROW := Aside0.mk hrow
          have HRS := Aside0.mk (show small row from by rw [hrow]; exact rowS c (by omega))
          have HFS := Aside0.mk (farUpto_small HDS.out HRS.out)
          clear hs hbv hrow
          obtain ⟨gO, rfl⟩ : ∃ gO, gk = gO + 1 := ⟨gk - 1, by have := HG.out; omega⟩
          go_wp2
          go_loopg [14, 15, 16, 64, 65, 66, 67, 68, 69, 70, 71, 72, 73, 74, 75, 76, 77, 78, 79, 80, 81, 82, 83, 84, 85, 86, 87] 8 (fun kq v14 v15 v16 v64 v65 v66 v67 v68 v69 v70 v71 v72 v73 v74 v75 v76 v77 v78 v79 v80 v81 v82 v83 v84 v85 v86 v87 wx => ∃ b : Nat, v15 = .int .i64 (b : Int) ∧ v14 = .int .i64 (farUpto D row b) ∧ Aside0 (kq + b = 8) ∧ Aside0 (RS w b7 Ah ch h s z8 wx))
          case atStart => exact ⟨0, rfl, rfl, ⟨rfl⟩, ⟨HS.out⟩⟩
          case round =>
            clear HS
            obtain ⟨b, rfl, rfl, HG2, HS⟩ := hrel
            by_cases hb : b < 8
            · have hb0 : (0 : Int) ≤ b := by omega
              have hb8 : (b : Int) < 8 := by omega
              obtain ⟨adh, rfl, hcl⟩ := HS.out.hat hb
              have hyb := HHB.out b
              have hla := HLA.out b hb
              generalize h.getD b 0 = y at hcl hyb hla
              have hfs := HFS.out b
              have hfn : farUpto D row (b + 1) = farUpto D row b + mx (D.getD b 0 - row.getD b 0) (row.getD b 0 - D.getD b 0) := rfl
              have hdb := HDS.out.2 b
              have hrb := HRS.out.2 b
              generalize farUpto D row b = fb at hfs hfn ⊢
              generalize D.getD b 0 = d at hla hdb hfn
              obtain ⟨r, hr⟩ : ∃ r, r = row.getD b 0 := ⟨_, rfl⟩
              rw [← hr] at hfn hrb
              have HR := Aside0.mk hr
              have hsb := HSB.out
              have hd1 : Int.tdiv T 8 = T / 8 := Int.tdiv_eq_ediv_of_nonneg hsb.1
              rw [hd1] at hla
              have hw1 : IntKind.i64.wrap (T / 8) = T / 8 := by rw [i64_w]; unfold wrap64; omega
              have hw2 : IntKind.i64.wrap (y - T / 8) = d := by rw [i64_w]; unfold wrap64; omega
              obtain ⟨e_, he_⟩ : ∃ e_, e_ = d - r := ⟨_, rfl⟩
              have hw3 : IntKind.i64.wrap (d - r) = e_ := by rw [i64_w]; unfold wrap64; omega
              have hmx : mx (d - r) (r - d) = if e_ < 0 then -e_ else e_ := by simp only [mx]; split <;> split <;> omega
              rw [hmx] at hfn
              have hee : -2097152 ≤ e_ ∧ e_ ≤ 2097152 := by omega
              have HFN := Aside0.mk hfn
              clear hmx he_
              have HBB := Aside0.mk hb
              clear hr hfn hla
              go_wp2
              have hcd : wr.drew.cell? (adh.add b) = some (.int .i64 y) := hcl
              have HSd := Aside0.mk HS.out.drew
              go_region_with (first | (go_at_call 65; refine (HBK.out _).mono ?_; rintro e w3 ⟨A, cap, rfl, hC, hcap, hb_⟩; have HS3 := Aside0.mk (HSd.out.later hb_); have hc3 : w3.cell? (adh.add b) = some (.int .i64 y) := (hb_.cell (World.block_lt_of_cell? _ _ hcd)).trans hcd; obtain ⟨ad, rfl, hcell⟩ := (reads_int hC).2.2 (by omega); have hx3 := hcell b HBB.out; rw [← HR.out] at hx3; clear hb_ hC hcell))
              all_goals
                have hfn := HFN.out
                obtain ⟨g0, rfl⟩ : ∃ g0, gk = g0 + 1 := ⟨gk - 1, by have := HG2.out; have := HBB.out; omega⟩
                clear hcl hcd hc3 hx3 hw1 hw2 hw3 hd1
                by_cases hneg : e_ < 0
                · rw [if_pos hneg] at hfn
                  have hw4 : IntKind.i64.wrap (-e_) = -e_ := by rw [i64_w]; unfold wrap64; omega
                  have hw5 : IntKind.i64.wrap (fb + -e_) = fb + -e_ := by rw [i64_w]; unfold wrap64; omega
                  have HFN2 := Aside0.mk hfn
                  clear hfn
                  go_wp2
                  go_roundg g0
                  case measure => omega
                  case rel => exact ⟨b + 1, by first | rfl | (congr 1; push_cast; rfl), by rw [HFN2.out], ⟨by have := HG2.out; omega⟩, HS3⟩
                · rw [if_neg hneg] at hfn
                  have hw5 : IntKind.i64.wrap (fb + e_) = fb + e_ := by rw [i64_w]; unfold wrap64; omega
                  have HFN2 := Aside0.mk hfn
                  clear hfn
                  go_wp2
                  go_roundg g0
                  case measure => omega
                  case rel => exact ⟨b + 1, by first | rfl | (congr 1; push_cast; rfl), by rw [HFN2.out], ⟨by have := HG2.out; omega⟩, HS3⟩
            · obtain rfl : b = 8 := by have := HG2.out; omega
              have hnb := HBV.out
              have hfar : farUpto D row 8 = far D row := rfl
              rw [hfar]
              have HBN := Aside0.mk (show bestV D (c + 1) = far D (rowOf (if far D (rowOf c) < far D (rowOf (bestUpto D c)) then c else bestUpto D c)) from rfl)
              have HSN := Aside0.mk (show bestUpto D (c + 1) = if far D (rowOf c) < far D (rowOf (bestUpto D c)) then c else bestUpto D c from rfl)
              rw [← HSE.out, ← HROW.out] at HBN HSN
              have hfp : 0 ≤ far D row := (HFS.out 8).1
              have hfs : 0 ≤ far D (rowOf s) := (farUpto_small HDS.out (rowS s (by have := bestUpto_le D c (by have := HCC.out; omega); have := HSE.out; omega)) 8).1
              have hbvs : (c = 0 ∧ bv = -1 ∧ s = 0) ∨ (c ≠ 0 ∧ bv = far D (rowOf s)) := by
                rcases c with _ | c
                · exact .inl ⟨rfl, hnb, HSE.out⟩
                · exact .inr ⟨by omega, by rw [hnb, HSE.out]; rfl⟩
              have hfe : c = 0 → row = rowOf s := by
                intro h0; have h1 := HROW.out; subst h0; rcases hbvs with h2 | h2
                · rw [h1, h2.2.2]
                · exact absurd rfl h2.1
              have hoc := HS.out.code
              have hof : wr.frozen? ⟨b7, 0, none⟩ = false := blk_frozen HS.out.s 0
              have hfc : far D (rowOf c) = far D row := by rw [← HROW.out]
              generalize far D row = fp at hfp HBN HSN hfc ⊢
              have hA : (bv < 0 ∨ fp < bv) → bestUpto D (c + 1) = c ∧ bestV D (c + 1) = fp := by
                intro hh
                have hz : s = c ∨ fp < far D (rowOf s) := by
                  rcases hbvs with h2 | h2
                  · exact .inl (by omega)
                  · exact .inr (by have := h2.2; omega)
                rcases hz with h0 | h0
                · rw [HSN.out, HBN.out, h0, ite_self]; exact ⟨rfl, hfc⟩
                · rw [HSN.out, HBN.out, if_pos h0]; exact ⟨rfl, hfc⟩
              have hB : ¬ (bv < 0 ∨ fp < bv) → bestUpto D (c + 1) = s ∧ bestV D (c + 1) = bv := by
                intro hh
                rcases hbvs with h2 | h2
                · exact absurd (.inl (by omega)) hh
                · have h0 : ¬ fp < far D (rowOf s) := by have := h2.2; omega
                  rw [HSN.out, HBN.out, if_neg h0]; exact ⟨rfl, h2.2.symm⟩
              have HA := Aside0.mk hA; have HBq := Aside0.mk hB
              clear hA hB hfc hfe hbvs hfs hfp hnb hfar hb
              by_cases hneg : bv < 0
              · have hn := Aside0.mk (HA.out (.inl hneg))
                have HSz := Aside0.mk (HS.out.setS HLT.out c)
                go_wp2
                go_roundg gO
                case measure => omega
                case rel => exact ⟨c + 1, by first | rfl | (congr 1; push_cast; rfl), by rw [hn.out.2], ⟨by have := HG.out; omega⟩, ⟨by rw [hn.out.1]; exact HSz.out⟩⟩
              · by_cases hlt : fp < bv
                · have hn := Aside0.mk (HA.out (.inr hlt))
                  have HSz := Aside0.mk (HS.out.setS HLT.out c)
                  go_wp2
                  go_roundg gO
                  case measure => omega
                  case rel => exact ⟨c + 1, by first | rfl | (congr 1; push_cast; rfl), by rw [hn.out.2], ⟨by have := HG.out; omega⟩, ⟨by rw [hn.out.1]; exact HSz.out⟩⟩
                · have hn := Aside0.mk (HBq.out (by omega))
                  clear hoc hof
                  go_wp2
                  go_roundg gO
                  case measure => omega
                  case rel => exact ⟨c + 1, by first | rfl | (congr 1; push_cast; rfl), by rw [hn.out.2], ⟨by have := HG.out; omega⟩, ⟨by rw [hn.out.1]; exact HS.out⟩⟩
        · obtain rfl : c = 16 := by have := HG.out; omega
          have hsl := bestUpto_le D 16 (by omega)
          obtain ⟨s, hs⟩ : ∃ s, s = bestUpto D 16 := ⟨_, rfl⟩
          rw [← hs] at HS hsl
          have HSE := Aside0.mk hs
          have hs0 : (0 : Int) ≤ s := by omega
          have hs16 : (s : Int) < 16 := by omega
          have HBK := Aside0.mk (fun W => ref_Book.row (s : Int) (by omega) (by omega) W)
          rw [Int.toNat_natCast] at HBK
          obtain ⟨row, hrow⟩ : ∃ row, row = rowOf s := ⟨_, rfl⟩
          rw [← hrow] at HBK
          have HRS := Aside0.mk (show small row from by rw [hrow]; exact rowS s (by omega))
          have HRE := Aside0.mk (fun (b : Nat) (h : b < 8) => restL_at D s h)
          have HRL := Aside0.mk (restL_length D s)
          rw [← hrow] at HRE
          obtain ⟨RR, hRR⟩ : ∃ RR, RR = restL D s := ⟨_, rfl⟩
          rw [← hRR] at HRE HRL
          have HRR := Aside0.mk hRR
          clear hRR hrow hs
          go_wp2
          go_loopg [17, 18, 19, 98, 99, 100, 101, 102, 103, 104, 105, 106, 107, 108, 109, 110, 111, 112, 113, 114, 115, 116, 117, 118, 119, 120, 121, 122, 123, 124, 125, 126, 127, 128, 129] 8 (fun kq v17 v18 v19 v98 v99 v100 v101 v102 v103 v104 v105 v106 v107 v108 v109 v110 v111 v112 v113 v114 v115 v116 v117 v118 v119 v120 v121 v122 v123 v124 v125 v126 v127 v128 v129 wx => ∃ j : Nat, v17 = .int .i64 (j : Int) ∧ Aside0 (kq + j = 8) ∧ Aside0 (RS w b7 Ah ch h s (RR.take j ++ z8.drop j) wx))
          case atStart => exact ⟨0, rfl, ⟨rfl⟩, ⟨HS.out⟩⟩
          case round =>
            clear HS HG
            obtain ⟨j, rfl, HG, HS⟩ := hrel
            by_cases hj : j < 8
            · have hj0 : (0 : Int) ≤ j := by omega
              have hj8 : (j : Int) < 8 := by omega
              obtain ⟨adh, rfl, hcl⟩ := HS.out.hat hj
              have hyb := HHB.out j
              have hla := HLA.out j hj
              have hre := HRE.out j hj
              generalize h.getD j 0 = y at hcl hyb hla
              have hdb := HDS.out.2 j
              have hrb := HRS.out.2 j
              generalize D.getD j 0 = d at hla hdb hre
              obtain ⟨r, hr⟩ : ∃ r, r = row.getD j 0 := ⟨_, rfl⟩
              rw [← hr] at hrb hre
              have HR := Aside0.mk hr
              have hsb := HSB.out
              have hd1 : Int.tdiv T 8 = T / 8 := Int.tdiv_eq_ediv_of_nonneg hsb.1
              rw [hd1] at hla
              have hw1 : IntKind.i64.wrap (T / 8) = T / 8 := by rw [i64_w]; unfold wrap64; omega
              have hw2 : IntKind.i64.wrap (y - T / 8) = d := by rw [i64_w]; unfold wrap64; omega
              have hw3 : IntKind.i64.wrap (d - r) = d - r := by rw [i64_w]; unfold wrap64; omega
              obtain ⟨e_, he_⟩ : ∃ e_, e_ = d - r + 64 := ⟨_, rfl⟩
              have hw4 : IntKind.i64.wrap (d - r + 64) = e_ := by rw [i64_w]; unfold wrap64; omega
              rw [← he_] at hre
              have hee : -2097152 ≤ e_ ∧ e_ ≤ 2097252 := by omega
              have HRV := Aside0.mk hre
              have HJ := Aside0.mk hj
              clear hr hla he_ hre
              have hoc : wr.cell? ⟨b7, 1 + j, none⟩ = some (.int .i64 ((RR.take j ++ z8.drop j).getD j 0)) := by
                rw [blk_cell HS.out.s, Nat.add_comm]
                exact cons_at (by rw [List.length_append, List.length_take, List.length_drop, HRL.out]; show j < min j 8 + (8 - j); omega)
              have HOC := Aside0.mk hoc
              clear hoc
              have hcode : wr.cell? ⟨b7, 0, none⟩ = some (.int .i64 s) := HS.out.code
              have hcoded : wr.drew.cell? ⟨b7, 0, none⟩ = some (.int .i64 s) := hcode
              have hcd : wr.drew.cell? (adh.add j) = some (.int .i64 y) := hcl
              have HSd := Aside0.mk HS.out.drew
              go_wp2
              go_region_with (first | (go_at_call 65; refine (HBK.out _).mono ?_; rintro e w3 ⟨A, cap, rfl, hC, hcap, hb_⟩; have HS3 := Aside0.mk (HSd.out.later hb_); have hc3 : w3.cell? (adh.add j) = some (.int .i64 y) := (hb_.cell (World.block_lt_of_cell? _ _ hcd)).trans hcd; have hcode3 : w3.cell? ⟨b7, 0, none⟩ = some (.int .i64 s) := HS3.out.code; have hoc3 : w3.cell? ⟨b7, 1 + j, none⟩ = some (.int .i64 ((RR.take j ++ z8.drop j).getD j 0)) := (hb_.cell (World.block_lt_of_cell? _ _ HOC.out)).trans HOC.out; have hof3 : w3.frozen? ⟨b7, 1 + j, none⟩ = false := blk_frozen HS3.out.s _; obtain ⟨ad, rfl, hcell⟩ := (reads_int hC).2.2 (by omega); have hx3 := hcell j HJ.out; rw [← HR.out] at hx3; clear hb_ hC hcell))
              all_goals
                obtain ⟨g0, rfl⟩ : ∃ g0, gk = g0 + 1 := ⟨gk - 1, by have := HG.out; have := HJ.out; omega⟩
                clear hcl hcd hc3 hx3 hw1 hw2 hw3 hw4 hd1 hcode hcoded hcode3
                obtain ⟨rv, hrv⟩ : ∃ rv, rv = RR.getD j 0 := ⟨_, rfl⟩
                have hrve : rv = clip43 (e_ / 128) := by rw [hrv, HRV.out]
                have HRVE := Aside0.mk hrv
                clear hrv
                obtain ⟨qf, hqf⟩ : ∃ qf, qf = e_ / 128 := ⟨_, rfl⟩
                have hqb : -100000 ≤ qf ∧ qf ≤ 100000 := by omega
                rw [← hqf] at hrve
                have hcase : (qf < -4 ∧ rv = -4) ∨ (¬ qf < -4 ∧ 3 < qf ∧ rv = 3) ∨ (¬ qf < -4 ∧ ¬ 3 < qf ∧ rv = qf) := by
                  rw [hrve]; unfold clip43; (repeat' split) <;> omega
                have hw7 : IntKind.i64.wrap (Int.tmod e_ 128) = Int.tmod e_ 128 := by rw [i64_w]; unfold wrap64; have h1 := Int.tmod_lt_of_pos e_ (show (0 : Int) < 128 by decide); have h2 := Int.lt_tmod_of_pos e_ (show (0 : Int) < 128 by decide); omega
                clear hrve
                rcases Go.Proofs.Ytblehkoonajofaa.FixBaseShape.down_cases (n := e_) (d := 128) (by decide) with ⟨hneg, hdq⟩ | ⟨hneg, hdq⟩
                · rw [← hqf] at hdq
                  have hw5 : IntKind.i64.wrap (qf + 1) = qf + 1 := by rw [i64_w]; unfold wrap64; omega
                  have hw6 : IntKind.i64.wrap (qf + 1 - 1) = qf := by rw [i64_w]; unfold wrap64; omega
                  clear hqf
                  rcases hcase with ⟨k1, rfl⟩ | ⟨k1, k2, rfl⟩ | ⟨k1, k2, rfl⟩
                  all_goals
                    go_wp2
                    go_roundg g0
                    case measure => omega
                    case rel => exact ⟨j + 1, by first | rfl | (congr 1; push_cast; rfl), ⟨by have := HG.out; omega⟩, ⟨by rw [← mix_set HJ.out HRL.out rfl, ← HRVE.out]; exact HS3.out.setR HLT.out j _⟩⟩
                · rw [← hqf] at hdq
                  have hw5 : IntKind.i64.wrap qf = qf := by rw [i64_w]; unfold wrap64; omega
                  clear hqf
                  rcases hcase with ⟨k1, rfl⟩ | ⟨k1, k2, rfl⟩ | ⟨k1, k2, rfl⟩
                  all_goals
                    go_wp2
                    go_roundg g0
                    case measure => omega
                    case rel => exact ⟨j + 1, by first | rfl | (congr 1; push_cast; rfl), ⟨by have := HG.out; omega⟩, ⟨by rw [← mix_set HJ.out HRL.out rfl, ← HRVE.out]; exact HS3.out.setR HLT.out j _⟩⟩
            · obtain rfl : j = 8 := by have := HG.out; omega
              have HS2 := Aside0.mk (show RS w b7 Ah ch h s RR wr from by have h1 := HS.out; rw [show z8.drop 8 = [] from rfl, List.append_nil, List.take_of_length_le (by rw [HRL.out]; exact Nat.le_refl _)] at h1; exact h1)
              clear HS HRE
              obtain ⟨r0, r1, r2, r3, r4, r5, r6, r7, rfl⟩ := eight HRL.out
              have hx : wr.heap[b7]? = some (.cells #[.int .i64 s, .int .i64 r0, .int .i64 r1, .int .i64 r2, .int .i64 r3, .int .i64 r4, .int .i64 r5, .int .i64 r6, .int .i64 r7] 55 (0, 0)) := HS2.out.s
              have c0 := fun j v (hj : (#[Value.int .i64 s, .int .i64 r0, .int .i64 r1, .int .i64 r2, .int .i64 r3, .int .i64 r4, .int .i64 r5, .int .i64 r6, .int .i64 r7] : Array Value)[j]? = some v) => (blk_cell hx j).trans hj
              have x0 := c0 0 _ rfl; have x1 := c0 1 _ rfl; have x2 := c0 2 _ rfl; have x3 := c0 3 _ rfl; have x4 := c0 4 _ rfl; have x5 := c0 5 _ rfl; have x6 := c0 6 _ rfl; have x7 := c0 7 _ rfl; have x8 := c0 8 _ rfl
              have hzb : wr.heap[w.heap.size]? = some (.cells (.int .i64 0 :: nums .i64 z8).toArray 55 (0, 0)) := HS2.out.z
              have HZB := Aside0.mk hzb
              clear c0 hx hzb
              go_wp2_with (first | (refine wpList_store_row rfl 55 _ _ rfl w.heap.size #[.int .i64 s, .int .i64 r0, .int .i64 r1, .int .i64 r2, .int .i64 r3, .int .i64 r4, .int .i64 r5, .int .i64 r6, .int .i64 r7] rfl rfl 55 (.int .i64 0 :: nums .i64 z8).toArray HZB.out (by kernel_rfl) (by kernel_rfl) (by kernel_rfl) ?_))
              have hz := setRow_heap wr w.heap.size (.int .i64 0 :: nums .i64 z8).toArray #[.int .i64 s, .int .i64 r0, .int .i64 r1, .int .i64 r2, .int .i64 r3, .int .i64 r4, .int .i64 r5, .int .i64 r6, .int .i64 r7] 55 (0, 0) HZB.out
              have HBZ := Aside0.mk (below_setRow HS2.out.be (Nat.le_refl _) #[.int .i64 s, .int .i64 r0, .int .i64 r1, .int .i64 r2, .int .i64 r3, .int .i64 r4, .int .i64 r5, .int .i64 r6, .int .i64 r7])
              generalize wr.setRow w.heap.size #[.int .i64 s, .int .i64 r0, .int .i64 r1, .int .i64 r2, .int .i64 r3, .int .i64 r4, .int .i64 r5, .int .i64 r6, .int .i64 r7] = wz at hz HBZ ⊢
              have c0 := fun j v (hj : (#[Value.int .i64 s, .int .i64 r0, .int .i64 r1, .int .i64 r2, .int .i64 r3, .int .i64 r4, .int .i64 r5, .int .i64 r6, .int .i64 r7] : Array Value)[j]? = some v) => (blk_cell hz j).trans hj
              have z0 := c0 0 _ rfl; have z1 := c0 1 _ rfl; have z2 := c0 2 _ rfl; have z3 := c0 3 _ rfl; have z4 := c0 4 _ rfl; have z5 := c0 5 _ rfl; have z6 := c0 6 _ rfl; have z7 := c0 7 _ rfl; have z8_ := c0 8 _ rfl
              clear c0 hz
              exact bodyPost_ret (v := .agg #[.int .i64 s, .int .i64 r0, .int .i64 r1, .int .i64 r2, .int .i64 r3, .int .i64 r4, .int .i64 r5, .int .i64 r6, .int .i64 r7]) (by simp [results, Try.results27, go_sem, z0, z1, z2, z3, z4, z5, z6, z7, z8_]) rfl ⟨by rw [← HSE.out, ← HRR.out]; rfl, HBZ.out⟩
end Go.Proofs.Ytblehkoonajofaa.PShape
