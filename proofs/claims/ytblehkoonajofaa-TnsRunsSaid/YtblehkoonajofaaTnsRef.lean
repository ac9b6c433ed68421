/- Tns: the reference's Run. -/
import Derived.Test.YtblehkoonajofaaTnsParts
import Derived.Test.YtblehkoonajofaaFixBaseTns
namespace Go.Proofs.Ytblehkoonajofaa.PTns
open Go.RowKit Go.Proofs.YtblehkoonajofaaW.PrintWords Go.Proofs.YtblehkoonajofaaW.PrintLast Go.Proofs.YtblehkoonajofaaW.PrintMore Go.Proofs.Ytblehkoonajofaa.RowAt
attribute [local go_sem] max2_int min2_int max_two min_two max_three min_three max_four min_four   -- for this text's walks alone
set_option linter.unusedVariables false
set_option linter.unusedSimpArgs false
section
open Go.Proofs.Ytblehkoonajofaa.Num
theorem rMul_of {a k : Int} (ha : In32 a) (hk : In16 k) : psalteryref17_mul.f a k = some (mul15 a k) := by
  have h := Go.Proofs.Ytblehkoonajofaa.FixBaseTns.prod32 ha.1 ha.2 (show (-2147483648 : Int) ≤ k by have := hk.1; omega) (show k ≤ 2147483647 by have := hk.2; omega)
  unfold psalteryref17_mul.f mul15
  rw [show wrap64 (a * k) = a * k from by unfold wrap64; omega, Go.Proofs.Ytblehkoonajofaa.FixBaseTns.rRound_eq 15 (by omega) (by omega), Option.bind_some, Go.Proofs.Ytblehkoonajofaa.FixBaseTns.rSat32_eq]
  rfl
theorem rAdd_of {a b : Int} (ha : In32 a) (hb : -2147483648 ≤ b ∧ b ≤ 2147483648) : psalteryref17_add.f a b = some (addS a b) := by
  unfold psalteryref17_add.f addS
  rw [show wrap64 (a + b) = a + b from by unfold wrap64; have := ha.1; have := ha.2; omega, Go.Proofs.Ytblehkoonajofaa.FixBaseTns.rSat32_eq]
  rfl
end
/-- What stands in memory while the reference's Run runs. -/
structure RI (w wx : World) (fc : Array Value) (S : List Int) (u : Value) (L : List Int) : Prop where
  fb : wx.heap[w.heap.size]? = some (.cells fc 63 (0, 0))
  sb : wx.heap[w.heap.size + 1]? = some (.cells (nums .i64 S).toArray 132 (0, 0))
  ow : wx.ownsRow w.heap.size 21 1 u L.length (nums .i32 L)
  be : Below w.heap.size w wx
namespace RI
variable {w wx wy : World} {fc : Array Value} {S L : List Int} {u v : Value}
theorem later (h : RI w wx fc S u L) (hb : Below wx.heap.size wx wy) : RI w wy fc S u L :=
  ⟨box_later h.fb hb, box_later h.sb hb, h.ow.kept (grown_of_below hb none) (by cases u.ownBlock <;> simp), below_step h.be hb⟩
theorem grow (h : RI w wx fc S u L) {M : List Int} (g1 : wy.ownsRow w.heap.size 21 1 v M.length (nums .i32 M)) (g2 : Below w.heap.size w wy) (g3 : wx.grownBy wy u.ownBlock) : RI w wy fc S v M :=
  ⟨(g3.block _ (blk_lt h.fb) (own_ne h.ow h.fb (by decide))).trans h.fb, (g3.block _ (blk_lt h.sb) (own_ne h.ow h.sb (by decide))).trans h.sb, g1, g2⟩
theorem far (h : RI w wx fc S u L) {G : Nat} {cs : Array Value} (hG : wx.heap[G]? = some (.cells cs 113 (0, 0))) (hg : w.heap.size + 1 < G) (j : Nat) (v : Value) : RI w (wx.setCell ⟨G, j, none⟩ v) fc S u L := by
  have hne := own_ne h.ow hG (by decide)
  exact ⟨blk_far h.fb (by dsimp; omega) v, blk_far h.sb (by dsimp; omega) v, own_move h.ow fun b hb => Below.heap_setCell wx ⟨G, j, none⟩ v b (by intro e; apply hne; rw [hb]; exact congrArg some e.symm), h.be.setCell (p := ⟨G, j, none⟩) (by dsimp; omega) v⟩
theorem put (h : RI w wx fc S u L) (j : Nat) (v : Int) : RI w (wx.setCell ⟨w.heap.size + 1, j, none⟩ (.int .i64 v)) fc (S.set j v) u L := by
  have hne := own_ne h.ow h.sb (by decide)
  exact ⟨blk_far h.fb (by dsimp; omega) _, blk_store h.sb j v, own_move h.ow fun b hb => Below.heap_setCell wx ⟨w.heap.size + 1, j, none⟩ _ b (by intro e; apply hne; rw [hb]; exact congrArg some e.symm), h.be.setCell (p := ⟨w.heap.size + 1, j, none⟩) (by dsimp; omega) _⟩
end RI
def fCells (a : List Int) : Array Value := (.int .i64 1 :: nums .i64 a).toArray
theorem fcell {w : World} {g : Nat} {a : List Int} (h : w.heap[g]? = some (.cells (fCells a) 63 (0, 0))) {j : Nat} (hj : j < a.length) : w.cell? ⟨g, 1 + j, none⟩ = some (.int .i64 (a.getD j 0)) := by
  rw [blk_cell h, Nat.add_comm]; exact cons_at hj
def backL (K S F : List Int) : List Int := (List.range 5).map (backV K S F)
theorem backL_length (K S F : List Int) : (backL K S F).length = 5 := by simp [backL]
theorem backL_at (K S F : List Int) {j : Nat} (hj : j < 5) : (backL K S F).getD j 0 = backV K S F j := by
  rw [backL, List.getD_eq_getElem?_getD, List.getElem?_map, List.getElem?_range hj]; rfl
theorem drop_four (F : List Int) (x : Int) (h : F.length = 5) (hx : x = F.getD 4 0) : z5.take 4 ++ F.drop 4 = [0, 0, 0, 0, x] := by
  obtain ⟨f0, f1, f2, f3, f4, rfl⟩ := five h
  rw [hx]; rfl
set_option maxHeartbeats 8000000 in
set_option maxRecDepth 100000 in
theorem ref17_Run.up (A : Option Addr) (c : Nat) (x a : List Int) (w : World) (hr : ReadsInt w .i32 A x.length x) (hn : x.length ≤ 120) (hx : ∀ i, In32 (x.getD i 0)) (ha : a.length = 4) (hk : okFilt 1 a) :
    Calls Try.prog 46 #[.slice A x.length c, filtV 1 a, .bool false] w fun e w' => ∃ v, e = .returned v ∧ w'.ownsRow w.heap.size 21 1 v x.length (nums .i32 (upLines (partsL a) x)) ∧ Below w.heap.size w w' := by
  have hk16 : ∀ j, j < 4 → 0 ≤ a.getD j 0 ∧ a.getD j 0 ≤ 16 := fun j hj => by have := hk.2 j hj; omega
  have HAL := Aside0.mk ha
  have HST := Aside0.mk (stUp_ok (partsL_in ha hk16) hx)
  have HXI := Aside0.mk hx
  have HTA := Aside0.mk (fun i hi => upLines_at (partsL a) x (i := i) hi)
  have HTL := Aside0.mk (upLines_length (partsL a) x)
  have HSS := Aside0.mk (show ∀ i, stUp (partsL a) x (i + 1) = nextS (partsL a) (stUp (partsL a) x i) (upL (partsL a) (stUp (partsL a) x i) (x.getD i 0)) from fun i => rfl)
  have HS0 := Aside0.mk (show stUp (partsL a) x 0 = z4 from rfl)
  have HOT := Aside0.mk (show ∀ i, outUp (partsL a) x i = frontUp (partsL a) (stUp (partsL a) x i) (x.getD i 0) 4 from fun i => rfl)
  have HRP := Aside0.mk (show ∀ j, j < 4 → psalteryref17_Part.f 1000 (a.getD j 0) = some ((partsL a).getD j 0) from fun j hj => by
    rw [rpart_of (hk16 j hj).1 (hk16 j hj).2]
    unfold partsL; rw [List.getD_eq_getElem?_getD (l := List.map _ _), List.getElem?_map, List.getD_eq_getElem?_getD, List.getElem?_eq_getElem (by omega)]; rfl)
  obtain ⟨T, hT⟩ : ∃ T, T = upLines (partsL a) x := ⟨_, rfl⟩
  rw [← hT] at HTA HTL ⊢
  obtain ⟨K, hK⟩ : ∃ K, K = partsL a := ⟨_, rfl⟩
  rw [← hK] at HST HTA HSS HS0 HOT HRP
  have HR := Aside0.mk hr
  have HN := Aside0.mk hn
  obtain ⟨a0, a1, a2, a3, h4⟩ := four ha
  have hV : filtV 1 a = .agg #[.int .i64 1, .int .i64 a0, .int .i64 a1, .int .i64 a2, .int .i64 a3] := by rw [h4]; rfl
  have HV := Aside0.mk (show (#[.int .i64 1, .int .i64 a0, .int .i64 a1, .int .i64 a2, .int .i64 a3] : Array Value) = fCells a from by rw [h4]; rfl)
  rw [hV]
  clear hr hn hx ha hk hk16 hT hK h4 hV
  have HI1 := Aside0.mk (show RI w ((w.alloc (.cells (fCells a) 63)).alloc (.cells (nums .i64 z4).toArray 132)) (fCells a) z4 (.slice none 0 0) [] from ⟨(two_new w _ _).1, (two_new w _ _).2, own_nil _ _ _ _, below_alloc (below_alloc (Below.refl w.heap.size w) _) _⟩)
  go_enter Try.func46, Try.ntmps46
  go_wp2
  rw [HV.out]
  change Code.wp _ _ _ _ ((w.alloc (.cells (fCells a) 63)).alloc (.cells (nums .i64 z4).toArray 132))
  generalize (w.alloc (.cells (fCells a) 63)).alloc (.cells (nums .i64 z4).toArray 132) = w2 at HI1 ⊢
  have HI1 := Aside0.mk (show RI w w2 (fCells a) (stUp K x 0) (.slice none 0 0) (T.take 0) from by rw [HS0.out]; exact HI1.out)
  go_loopg [8, 9, 10, 11, 12, 13, 14, 15, 16, 17, 18, 19, 20, 21, 22, 23, 24, 25, 26, 27, 28, 29, 30, 31, 32, 33, 34, 35, 36, 37, 38, 39, 40, 41, 42, 43, 44, 45, 46, 47, 48, 49, 50, 51, 52, 53, 54, 55, 56, 57, 58, 59, 60, 61, 62, 63, 64, 65, 66, 67, 68, 69, 70, 71, 72, 73, 74, 75, 76, 77, 78, 79, 80, 81, 82, 83, 84, 85, 86, 87, 88, 89, 90, 91, 92, 93, 94, 95, 96, 97, 98, 99, 100, 101, 102, 103, 104, 105, 106, 107, 108, 109, 110, 111, 112, 113, 114, 115, 116, 117, 118, 119] x.length (fun kq v8 v9 v10 v11 v12 v13 v14 v15 v16 v17 v18 v19 v20 v21 v22 v23 v24 v25 v26 v27 v28 v29 v30 v31 v32 v33 v34 v35 v36 v37 v38 v39 v40 v41 v42 v43 v44 v45 v46 v47 v48 v49 v50 v51 v52 v53 v54 v55 v56 v57 v58 v59 v60 v61 v62 v63 v64 v65 v66 v67 v68 v69 v70 v71 v72 v73 v74 v75 v76 v77 v78 v79 v80 v81 v82 v83 v84 v85 v86 v87 v88 v89 v90 v91 v92 v93 v94 v95 v96 v97 v98 v99 v100 v101 v102 v103 v104 v105 v106 v107 v108 v109 v110 v111 v112 v113 v114 v115 v116 v117 v118 v119 wx => ∃ (i : Nat) (u : Value), v9 = .int .i64 (i : Int) ∧ v8 = u ∧ Aside0 (kq + i = x.length) ∧ Aside0 (RI w wx (fCells a) (stUp K x i) u (T.take i)))
  case atStart => exact ⟨0, _, rfl, rfl, ⟨rfl⟩, HI1⟩
  case round =>
    clear HI1
    obtain ⟨i, u, rfl, rfl, HG, HI⟩ := hrel
    by_cases hi : i < x.length
    · have hi0 : (0 : Int) ≤ i := by omega
      have hin : (i : Int) < (x.length : Int) := by omega
      have hsz := blk_lt HI.out.sb
      have HSZ := Aside0.mk hsz
      obtain ⟨ad, eA, hcell⟩ := (reads_below HR.out HI.out.be).2.2 (by omega)
      subst eA
      have hxc := hcell i hi
      have HII := Aside0.mk hi
      have HST2 := Aside0.mk (HST.out i)
      have HXI2 := Aside0.mk (HXI.out i)
      have HTA2 := Aside0.mk ((HTA.out i hi).trans (HOT.out i))
      have HSS2 := Aside0.mk (HSS.out i)
      obtain ⟨xi, hxi⟩ : ∃ xi, xi = x.getD i 0 := ⟨_, rfl⟩
      rw [← hxi] at hxc HXI2 HTA2 HSS2
      obtain ⟨S, hS⟩ : ∃ S, S = stUp K x i := ⟨_, rfl⟩
      rw [← hS] at HI HST2 HTA2 HSS2
      have hxw : wrap64 xi = xi := by have := HXI2.out.1; have := HXI2.out.2; unfold wrap64; omega
      have hxw2 : IntKind.i64.wrap xi = xi := by rw [i64_w]; exact hxw
      have hwi : IntKind.i64.wrap ((i : Int) + 1) = ((i + 1 : Nat) : Int) := by rw [i64_w]; unfold wrap64; have := HN.out; omega
      have hxc2 := ((below_alloc (Below.refl wr.heap.size wr) (.cells #[.int .i64 0, .int .i64 0, .int .i64 0, .int .i64 0, .int .i64 0] 113)).cell (World.block_lt_of_cell? wr _ hxc)).trans hxc
      clear hcell hi hxi hS hsz hxc
      obtain ⟨g0, rfl⟩ : ∃ g0, gk = g0 + 1 := ⟨gk - 1, by have := HG.out; have := HII.out; omega⟩
      have HGO := Aside0.mk HG.out
      obtain ⟨F, hF⟩ : ∃ F, F = upL K S xi := ⟨_, rfl⟩
      have HUA := Aside0.mk (show ∀ j, j < 5 → F.getD j 0 = frontUp K S xi j from fun j hj => by rw [hF]; exact upL_at K S xi hj)
      have HUL := Aside0.mk (show F.length = 5 from by rw [hF]; exact upL_length K S xi)
      have HIN := Aside0.mk (fun j => frontUp_in (K := K) (S := S) HXI2.out j)
      rw [← hF] at HSS2
      have HX0 := Aside0.mk (show xi = F.getD 0 0 from by rw [HUA.out 0 (by decide)]; rfl)
      clear hF
      have HI3 := Aside0.mk (HI.out.later (below_alloc (Below.refl wr.heap.size wr) (.cells #[.int .i64 xi, .int .i64 0, .int .i64 0, .int .i64 0, .int .i64 0] 113)))
      have HX3 := Aside0.mk (show (wr.alloc (.cells #[.int .i64 xi, .int .i64 0, .int .i64 0, .int .i64 0, .int .i64 0] 113)).heap[wr.heap.size]? = some (.cells (nums .i64 (F.take 1 ++ z5.drop 1)).toArray 113 (0, 0)) from by rw [take_one F xi (by rw [HUL.out]; decide) HX0.out]; exact blk_new wr _)
      clear HX0 HI
      go_wp2
      generalize wr.alloc (.cells #[.int .i64 xi, .int .i64 0, .int .i64 0, .int .i64 0, .int .i64 0] 113) = w3 at HI3 HX3 ⊢
      clear hxc2
      generalize wr.heap.size = G at HX3 HSZ ⊢
      go_loopg [12, 62, 63, 64, 65, 66, 67, 68, 69, 70, 71, 72, 73, 74, 75, 76, 77, 78, 79, 80, 81] 4 (fun kq v12 v62 v63 v64 v65 v66 v67 v68 v69 v70 v71 v72 v73 v74 v75 v76 v77 v78 v79 v80 v81 wx => ∃ j : Nat, v12 = .int .i64 (j : Int) ∧ Aside0 (kq + j = 4) ∧ Aside0 (RI w wx (fCells a) S u8 (T.take i)) ∧ Aside0 (wx.heap[G]? = some (.cells (nums .i64 (F.take (j + 1) ++ z5.drop (j + 1))).toArray 113 (0, 0))))
      case atStart => exact ⟨0, rfl, ⟨rfl⟩, HI3, HX3⟩
      case round =>
        clear HI3 HX3
        obtain ⟨j, rfl, HG, HI, HX⟩ := hrel
        by_cases hj : j < 4
        · have HGG := Aside0.mk HSZ.out
          have HXO := Aside0.mk HX.out
          have hml : (F.take (j + 1) ++ z5.drop (j + 1)).length = 5 := by rw [List.length_append, List.length_take, List.length_drop, HUL.out]; show min (j + 1) 5 + (5 - (j + 1)) = 5; omega
          have hj0 : (0 : Int) ≤ j := by omega
          have hj4 : (j : Int) < 4 := by omega
          have hj5 : (j : Int) < 5 := by omega
          have hk5 : (j : Int) + 1 < 5 := by omega
          have hk0 : (0 : Int) ≤ (j : Int) + 1 := by omega
          have hn5 : j + 1 < 5 := by omega
          have ht1 : ((j : Int) + 1).toNat = j + 1 := by omega
          have hwj : IntKind.i64.wrap ((j : Int) + 1) = (j : Int) + 1 := by rw [i64_w]; unfold wrap64; omega
          have hs := nums_at HI.out.sb (i := j) (by rw [HST2.out.s4]; exact hj)
          have hd := fcell HI.out.fb (j := j) (by rw [HAL.out]; exact hj)
          have hP := HRP.out j hj
          have hsi := HST2.out.si j hj
          have hki := HST2.out.ki j hj
          have HJJ := Aside0.mk hj
          have hf := nums_at HX.out (i := j) (by rw [hml]; omega)
          rw [mix_at' (n := 5) (by omega) (by omega) HUL.out, HUA.out j (by omega)] at hf
          have hoc := nums_at HX.out (i := j + 1) (by rw [hml]; omega)
          have hfi := HIN.out j
          have hnew := HUA.out (j + 1) (by omega)
          rw [show frontUp K S xi (j + 1) = addS (frontUp K S xi j) (mul15 (S.getD j 0) (K.getD j 0)) from rfl] at hnew
          generalize frontUp K S xi j = f at hf hfi hnew
          obtain ⟨ov, hov⟩ : ∃ ov, ov = (F.take (j + 1) ++ z5.drop (j + 1)).getD (j + 1) 0 := ⟨_, rfl⟩
          rw [← hov] at hoc
          generalize S.getD j 0 = s at hs hsi hnew
          generalize K.getD j 0 = kk at hP hki hnew
          generalize a.getD j 0 = ix at hd hP
          have HP := Aside0.mk hP
          obtain ⟨m, hm⟩ : ∃ m, m = mul15 s kk := ⟨_, rfl⟩
          have HM := Aside0.mk (show psalteryref17_mul.f s kk = some m from by rw [hm]; exact rMul_of hsi hki)
          have hmi : In32 m := by rw [hm]; exact mul15_in _ _
          rw [← hm] at hnew
          obtain ⟨nx, hnx⟩ : ∃ nx, nx = addS f m := ⟨_, rfl⟩
          have HA := Aside0.mk (show psalteryref17_add.f f m = some nx from by rw [hnx]; exact rAdd_of hfi ⟨hmi.1, by have := hmi.2; omega⟩)
          rw [← hnx] at hnew
          have HNW := Aside0.mk hnew
          obtain ⟨g1, rfl⟩ : ∃ g1, gk = g1 + 1 := ⟨gk - 1, by have := HG.out; omega⟩
          clear hm hnx hnew hsi hki hfi hmi hml hj hov hP
          have HCS := Aside0.mk (fun (W : World) (hb : Below wr.heap.size wr W) => (hb.cell (World.block_lt_of_cell? wr _ hs)).trans hs)
          have HCD := Aside0.mk (fun (W : World) (hb : Below wr.heap.size wr W) => (hb.cell (World.block_lt_of_cell? wr _ hd)).trans hd)
          have HCF := Aside0.mk (fun (W : World) (hb : Below wr.heap.size wr W) => (hb.cell (World.block_lt_of_cell? wr _ hf)).trans hf)
          have HCO := Aside0.mk (fun (W : World) (hb : Below wr.heap.size wr W) => (hb.cell (World.block_lt_of_cell? wr _ hoc)).trans hoc)
          have HBd := Aside0.mk (below_drew (Below.refl wr.heap.size wr))
          go_wp2
          have hsd : wr.drew.cell? ⟨w.heap.size + 1, j, none⟩ = some (.int .i64 s) := hs
          have hdd : wr.drew.cell? ⟨w.heap.size, 1 + j, none⟩ = some (.int .i64 ix) := hd
          have hfd : wr.drew.cell? ⟨G, j, none⟩ = some (.int .i64 f) := hf
          have hs6 : ∀ W : World, W.cell? ⟨w.heap.size + 1, j, none⟩ = some (.int .i64 s) → (W.setCell ⟨G, j + 1, none⟩ (.int .i64 nx)).cell? ⟨w.heap.size + 1, j, none⟩ = some (.int .i64 s) := fun W h => by rw [cell_far W (by have := HGG.out; omega)]; exact h
          have hd6 : ∀ W : World, W.cell? ⟨w.heap.size, 1 + j, none⟩ = some (.int .i64 ix) → (W.setCell ⟨G, j + 1, none⟩ (.int .i64 nx)).cell? ⟨w.heap.size, 1 + j, none⟩ = some (.int .i64 ix) := fun W h => by rw [cell_far W (by have := HGG.out; omega)]; exact h
          have hf6 : ∀ W : World, W.cell? ⟨G, j, none⟩ = some (.int .i64 f) → (W.setCell ⟨G, j + 1, none⟩ (.int .i64 nx)).cell? ⟨G, j, none⟩ = some (.int .i64 f) := fun W h => by rw [cell_near W (by omega)]; exact h
          go_region_held3 (fun W => W.cell? ⟨w.heap.size + 1, j, none⟩ = some (.int .i64 s) ∧ W.cell? ⟨w.heap.size, 1 + j, none⟩ = some (.int .i64 ix) ∧ W.cell? ⟨G, j, none⟩ = some (.int .i64 f)) (first | exact ⟨hs, hd, hf⟩ | exact ⟨hsd, hdd, hfd⟩ | exact ⟨hs3, hd3, hf3⟩ | exact ⟨hs4, hd4, hf4⟩ | exact ⟨hs5, hd5, hf5⟩ | exact ⟨hs6 _ hs5, hd6 _ hd5, hf6 _ hf5⟩)
            (first | (go_at_call 45; refine (psalteryref17_Part.calls 1000 ix kk _ HP.out).mono ?_; rintro e w3 ⟨rfl, hb_⟩; have HB3 := Aside0.mk (below_step HBd.out hb_); have hs3 := HCS.out _ HB3.out; have hd3 := HCD.out _ HB3.out; have hf3 := HCF.out _ HB3.out; clear hb_) | (go_at_call 82; refine (psalteryref17_mul.calls s kk m _ HM.out).mono ?_; rintro e w4 ⟨rfl, hb_⟩; have HB4 := Aside0.mk (below_step HB3.out hb_); have hs4 := HCS.out _ HB4.out; have hd4 := HCD.out _ HB4.out; have hf4 := HCF.out _ HB4.out; clear hb_) | (go_at_call 81; refine (psalteryref17_add.calls f m nx _ HA.out).mono ?_; rintro e w5 ⟨rfl, hb_⟩; obtain ⟨q8, hq8⟩ := hb_.out; have HB5 := Aside0.mk (show Below wr.heap.size wr w5 from (by rw [hq8]; exact pw_below_drewN HB4.out _)); have hs5 := HCS.out _ HB5.out; have hd5 := HCD.out _ HB5.out; have hf5 := HCF.out _ HB5.out; have hoc5 := HCO.out _ HB5.out; have hof5 : w5.frozen? ⟨G, j + 1, none⟩ = false := blk_frozen (box_later HXO.out HB5.out) _; clear hb_ hq8))
          have HI5 := Aside0.mk (HI.out.later HB5.out)
          have HX5 := Aside0.mk (box_later HX.out HB5.out)
          have HXO5 := Aside0.mk (box_later HXO.out HB5.out)
          have HI6 := Aside0.mk (HI5.out.far HXO5.out (by have := HGG.out; omega) (j + 1) (.int .i64 nx))
          have HX6 := Aside0.mk (blk_store HX5.out (j + 1) nx)
          rw [← HNW.out, mix_set (by have := HJJ.out; omega) HUL.out rfl, HNW.out] at HX6
          clear hs hd hf hsd hdd hfd hs3 hd3 hf3 hs4 hd4 hf4 hs5 hd5 hf5 hs6 hd6 hf6 hoc hoc5 hof5
          try clear hHeld
          go_wp2
          go_roundg g1
          case measure => omega
          case rel => exact ⟨j + 1, by first | rfl | (congr 1; push_cast; rfl), ⟨by have := HG.out; omega⟩, HI6, HX6⟩
        · obtain rfl : j = 4 := by have := HG.out; omega
          clear hj
          have HX6 := Aside0.mk (show wr.heap[G]? = some (.cells (nums .i64 F).toArray 113 (0, 0)) from by have h1 := HX.out; rw [show z5.drop (4 + 1) = [] from rfl, List.append_nil, List.take_of_length_le (by rw [HUL.out]; exact Nat.le_refl _)] at h1; exact h1)
          obtain ⟨f0, f1, f2, f3, f4, h5⟩ := five HUL.out
          have hcs := fun (W : World) (g : W.heap[G]? = some (.cells (nums .i64 F).toArray 113 (0, 0))) (k : Nat) (v : Value) (hv : (nums .i64 F).toArray[k]? = some v) => (blk_cell g k).trans hv
          have HCS := Aside0.mk hcs
          have hfo : IntKind.i32.wrap f4 = f4 := by
            have h := HIN.out 4
            have h2 := HUA.out 4 (by decide)
            rw [h5] at h2
            have h3 : f4 = frontUp K S xi 4 := h2
            rw [← h3] at h
            have h6 := h.1
            have h7 := h.2
            rw [i32_w]; unfold wrap32; omega
          have x0 := hcs _ HX6.out 0 (.int .i64 f0) (by rw [h5]; rfl)
          have x4 := hcs _ HX6.out 4 (.int .i64 f4) (by rw [h5]; rfl)
          have hy0 : f0 = F.getD 0 0 := by rw [h5]; rfl
          have HF0 := Aside0.mk hy0
          have HTT := Aside0.mk (show f4 = T.getD i 0 from by rw [HTA2.out]; have h2 := HUA.out 4 (by decide); rw [h5] at h2; exact h2)
          have HH5 := Aside0.mk (show (nums .i64 F).toArray[0]? = some (.int .i64 f0) from by rw [h5]; rfl)
          have HTI := Aside0.mk (show (T.take i).length = i from by rw [List.length_take, HTL.out]; have := HII.out; omega)
          clear h5 hcs hy0
          go_wp2_with (first | (at_builtin; refine print_append_num (w0 := w) (W := wr) w.heap.size rfl (.tmp 82) (.tmp 86) 41 21 .i32 4 rfl Try.underlying41 info_i32 (by decide) u8 (T.take i) f4 rfl rfl HI.out.ow HI.out.be (below_size HI.out.be) (by rw [HTI.out]; have h1_ := HN.out; have h2_ := HII.out; omega) ?_; intro v1 w7 g1 g2 g3 g4; have HI7 := Aside0.mk (HI.out.grow g1 g2 g3); have HX7 := Aside0.mk ((g3.block _ (blk_lt HX6.out) (own_ne HI.out.ow HX6.out (by decide))).trans HX6.out); have x7 := HCS.out _ (box_later HX7.out (below_alloc (Below.refl w7.heap.size w7) (.cells #[.int .i64 0, .int .i64 0, .int .i64 0, .int .i64 0, .int .i64 0] 113))) 0 _ HH5.out; clear g1 g2 g3 g4))
          have HI7 := Aside0.mk (show RI w w7 (fCells a) S v1 (T.take (i + 1)) from by have h := HI7.out; rw [HTT.out, take_next (by rw [HTL.out]; exact HII.out)] at h; exact h)
          obtain ⟨B, hB⟩ : ∃ B, B = backL K S F := ⟨_, rfl⟩
          have HBA := Aside0.mk (show ∀ j, j < 5 → B.getD j 0 = backV K S F j from fun j hj => by rw [hB]; exact backL_at K S F hj)
          have HBL := Aside0.mk (show B.length = 5 from by rw [hB]; exact backL_length K S F)
          have HNB := Aside0.mk (show ∀ j, j < 4 → (nextS K S F).getD j 0 = B.getD j 0 from fun j hj => by rw [hB, backL_at K S F (by omega), nextS_at K S F hj])
          have HB0 := Aside0.mk (show f0 = B.getD 0 0 from by rw [HBA.out 0 (by decide), HF0.out]; rfl)
          clear hB
          have HFI := Aside0.mk (show ∀ j, j < 5 → In32 (F.getD j 0) from fun j hj => by rw [HUA.out j hj]; exact HIN.out _)
          have HI8 := Aside0.mk (HI7.out.later (below_alloc (Below.refl w7.heap.size w7) (.cells #[.int .i64 f0, .int .i64 0, .int .i64 0, .int .i64 0, .int .i64 0] 113)))
          have HX8 := Aside0.mk (box_later HX7.out (below_alloc (Below.refl w7.heap.size w7) (.cells #[.int .i64 f0, .int .i64 0, .int .i64 0, .int .i64 0, .int .i64 0] 113)))
          have HY8 := Aside0.mk (show (w7.alloc (.cells #[.int .i64 f0, .int .i64 0, .int .i64 0, .int .i64 0, .int .i64 0] 113)).heap[w7.heap.size]? = some (.cells (nums .i64 (B.take 1 ++ z5.drop 1)).toArray 113 (0, 0)) from by rw [take_one B f0 (by rw [HBL.out]; decide) HB0.out]; exact blk_new w7 _)
          have HG2 := Aside0.mk (show G < w7.heap.size from blk_lt HX7.out)
          clear x7 x0 HI HX HX6 HI7 HX7 HCS
          try clear x4
          go_wp2
          generalize w7.alloc (.cells #[.int .i64 f0, .int .i64 0, .int .i64 0, .int .i64 0, .int .i64 0] 113) = w8 at HI8 HX8 HY8 ⊢
          generalize w7.heap.size = G2 at HY8 HG2 ⊢
          generalize u8 = uo at *
          go_loopg [14, 91, 92, 93, 94, 95, 96, 97, 98, 99, 100, 101, 102, 103, 104, 105, 106, 107, 108, 109, 110] 4 (fun kq v14 v91 v92 v93 v94 v95 v96 v97 v98 v99 v100 v101 v102 v103 v104 v105 v106 v107 v108 v109 v110 wx => ∃ j : Nat, v14 = .int .i64 (j : Int) ∧ Aside0 (kq + j = 4) ∧ Aside0 (RI w wx (fCells a) S v1 (T.take (i + 1))) ∧ Aside0 (wx.heap[G]? = some (.cells (nums .i64 F).toArray 113 (0, 0))) ∧ Aside0 (wx.heap[G2]? = some (.cells (nums .i64 (B.take (j + 1) ++ z5.drop (j + 1))).toArray 113 (0, 0))))
          case atStart => exact ⟨0, rfl, ⟨rfl⟩, HI8, HX8, HY8⟩
          case round =>
            clear HI8 HX8 HY8
            obtain ⟨j, rfl, HG, HI, HX, HXO⟩ := hrel
            have HGG := Aside0.mk (show w.heap.size + 1 < G ∧ G < G2 from ⟨HSZ.out, HG2.out⟩)
            by_cases hj : j < 4
            · have hml : (B.take (j + 1) ++ z5.drop (j + 1)).length = 5 := by rw [List.length_append, List.length_take, List.length_drop, HBL.out]; show min (j + 1) 5 + (5 - (j + 1)) = 5; omega
              have hj0 : (0 : Int) ≤ j := by omega
              have hj4 : (j : Int) < 4 := by omega
              have hj5 : (j : Int) < 5 := by omega
              have hk5 : (j : Int) + 1 < 5 := by omega
              have hk0 : (0 : Int) ≤ (j : Int) + 1 := by omega
              have hn5 : j + 1 < 5 := by omega
              have ht1 : ((j : Int) + 1).toNat = j + 1 := by omega
              have hwj : IntKind.i64.wrap ((j : Int) + 1) = (j : Int) + 1 := by rw [i64_w]; unfold wrap64; omega
              have hs := nums_at HI.out.sb (i := j) (by rw [HST2.out.s4]; exact hj)
              have hd := fcell HI.out.fb (j := j) (by rw [HAL.out]; exact hj)
              have hP := HRP.out j hj
              have hsi := HST2.out.si j hj
              have hki := HST2.out.ki j hj
              have HJJ := Aside0.mk hj
              have hf := nums_at HX.out (i := j) (by rw [HUL.out]; omega)
              have hoc := nums_at HXO.out (i := j + 1) (by rw [hml]; omega)
              have hfi := HFI.out j (by omega)
              have hnew := HBA.out (j + 1) (by omega)
              rw [show backV K S F (j + 1) = addS (S.getD j 0) (mul15 (F.getD j 0) (K.getD j 0)) from rfl] at hnew
              generalize F.getD j 0 = f at hf hfi hnew
              obtain ⟨ov, hov⟩ : ∃ ov, ov = (B.take (j + 1) ++ z5.drop (j + 1)).getD (j + 1) 0 := ⟨_, rfl⟩
              rw [← hov] at hoc
              generalize S.getD j 0 = s at hs hsi hnew
              generalize K.getD j 0 = kk at hP hki hnew
              generalize a.getD j 0 = ix at hd hP
              have HP := Aside0.mk hP
              obtain ⟨m, hm⟩ : ∃ m, m = mul15 f kk := ⟨_, rfl⟩
              have HM := Aside0.mk (show psalteryref17_mul.f f kk = some m from by rw [hm]; exact rMul_of hfi hki)
              have hmi : In32 m := by rw [hm]; exact mul15_in _ _
              rw [← hm] at hnew
              obtain ⟨nx, hnx⟩ : ∃ nx, nx = addS s m := ⟨_, rfl⟩
              have HA := Aside0.mk (show psalteryref17_add.f s m = some nx from by rw [hnx]; exact rAdd_of hsi ⟨hmi.1, by have := hmi.2; omega⟩)
              rw [← hnx] at hnew
              have HNW := Aside0.mk hnew
              obtain ⟨g1, rfl⟩ : ∃ g1, gk = g1 + 1 := ⟨gk - 1, by have := HG.out; omega⟩
              clear hm hnx hnew hsi hki hfi hmi hml hj hov hP
              have HCS := Aside0.mk (fun (W : World) (hb : Below wr.heap.size wr W) => (hb.cell (World.block_lt_of_cell? wr _ hs)).trans hs)
              have HCD := Aside0.mk (fun (W : World) (hb : Below wr.heap.size wr W) => (hb.cell (World.block_lt_of_cell? wr _ hd)).trans hd)
              have HCF := Aside0.mk (fun (W : World) (hb : Below wr.heap.size wr W) => (hb.cell (World.block_lt_of_cell? wr _ hf)).trans hf)
              have HCO := Aside0.mk (fun (W : World) (hb : Below wr.heap.size wr W) => (hb.cell (World.block_lt_of_cell? wr _ hoc)).trans hoc)
              have HBd := Aside0.mk (below_drew (Below.refl wr.heap.size wr))
              go_wp2
              have hsd : wr.drew.cell? ⟨w.heap.size + 1, j, none⟩ = some (.int .i64 s) := hs
              have hdd : wr.drew.cell? ⟨w.heap.size, 1 + j, none⟩ = some (.int .i64 ix) := hd
              have hfd : wr.drew.cell? ⟨G, j, none⟩ = some (.int .i64 f) := hf
              have hs6 : ∀ W : World, W.cell? ⟨w.heap.size + 1, j, none⟩ = some (.int .i64 s) → (W.setCell ⟨G2, j + 1, none⟩ (.int .i64 nx)).cell? ⟨w.heap.size + 1, j, none⟩ = some (.int .i64 s) := fun W h => by rw [cell_far W (by have := HGG.out; omega)]; exact h
              have hd6 : ∀ W : World, W.cell? ⟨w.heap.size, 1 + j, none⟩ = some (.int .i64 ix) → (W.setCell ⟨G2, j + 1, none⟩ (.int .i64 nx)).cell? ⟨w.heap.size, 1 + j, none⟩ = some (.int .i64 ix) := fun W h => by rw [cell_far W (by have := HGG.out; omega)]; exact h
              have hf6 : ∀ W : World, W.cell? ⟨G, j, none⟩ = some (.int .i64 f) → (W.setCell ⟨G2, j + 1, none⟩ (.int .i64 nx)).cell? ⟨G, j, none⟩ = some (.int .i64 f) := fun W h => by rw [cell_far W (by have := HGG.out; omega)]; exact h
              go_region_held3 (fun W => W.cell? ⟨w.heap.size + 1, j, none⟩ = some (.int .i64 s) ∧ W.cell? ⟨w.heap.size, 1 + j, none⟩ = some (.int .i64 ix) ∧ W.cell? ⟨G, j, none⟩ = some (.int .i64 f)) (first | exact ⟨hs, hd, hf⟩ | exact ⟨hsd, hdd, hfd⟩ | exact ⟨hs3, hd3, hf3⟩ | exact ⟨hs4, hd4, hf4⟩ | exact ⟨hs5, hd5, hf5⟩ | exact ⟨hs6 _ hs5, hd6 _ hd5, hf6 _ hf5⟩)
                (first | (go_at_call 45; refine (psalteryref17_Part.calls 1000 ix kk _ HP.out).mono ?_; rintro e w3 ⟨rfl, hb_⟩; have HB3 := Aside0.mk (below_step HBd.out hb_); have hs3 := HCS.out _ HB3.out; have hd3 := HCD.out _ HB3.out; have hf3 := HCF.out _ HB3.out; clear hb_) | (go_at_call 82; refine (psalteryref17_mul.calls f kk m _ HM.out).mono ?_; rintro e w4 ⟨rfl, hb_⟩; have HB4 := Aside0.mk (below_step HB3.out hb_); have hs4 := HCS.out _ HB4.out; have hd4 := HCD.out _ HB4.out; have hf4 := HCF.out _ HB4.out; clear hb_) | (go_at_call 81; refine (psalteryref17_add.calls s m nx _ HA.out).mono ?_; rintro e w5 ⟨rfl, hb_⟩; obtain ⟨q8, hq8⟩ := hb_.out; have HB5 := Aside0.mk (show Below wr.heap.size wr w5 from (by rw [hq8]; exact pw_below_drewN HB4.out _)); have hs5 := HCS.out _ HB5.out; have hd5 := HCD.out _ HB5.out; have hf5 := HCF.out _ HB5.out; have hoc5 := HCO.out _ HB5.out; have hof5 : w5.frozen? ⟨G2, j + 1, none⟩ = false := blk_frozen (box_later HXO.out HB5.out) _; clear hb_ hq8))
              have HI5 := Aside0.mk (HI.out.later HB5.out)
              have HX5 := Aside0.mk (box_later HX.out HB5.out)
              have HXO5 := Aside0.mk (box_later HXO.out HB5.out)
              have HI6 := Aside0.mk (HI5.out.far HXO5.out (by have := HGG.out; omega) (j + 1) (.int .i64 nx))
              have HX6 := Aside0.mk ((Below.heap_setCell w5 ⟨G2, j + 1, none⟩ (.int .i64 nx) G (by have := HGG.out; dsimp; omega)).trans HX5.out)
              have HXO6 := Aside0.mk (blk_store HXO5.out (j + 1) nx)
              rw [← HNW.out, mix_set (by have := HJJ.out; omega) HBL.out rfl, HNW.out] at HXO6
              clear hs hd hf hsd hdd hfd hs3 hd3 hf3 hs4 hd4 hf4 hs5 hd5 hf5 hs6 hd6 hf6 hoc hoc5 hof5
              try clear hHeld
              go_wp2
              go_roundg g1
              case measure => omega
              case rel => exact ⟨j + 1, by first | rfl | (congr 1; push_cast; rfl), ⟨by have := HG.out; omega⟩, HI6, HX6, HXO6⟩
            · obtain rfl : j = 4 := by have := HG.out; omega
              clear hj
              have HY6 := Aside0.mk (show wr.heap[G2]? = some (.cells (nums .i64 B).toArray 113 (0, 0)) from by have h1 := HXO.out; rw [show z5.drop (4 + 1) = [] from rfl, List.append_nil, List.take_of_length_le (by rw [HBL.out]; exact Nat.le_refl _)] at h1; exact h1)
              clear HX HXO
              go_wp2
              obtain ⟨N, hN⟩ : ∃ N, N = nextS K S F := ⟨_, rfl⟩
              rw [← hN] at HNB HSS2
              have HNL := Aside0.mk (show N.length = 4 from by rw [hN]; exact nextS_length _ _ _)
              clear hN
              go_loopg [15, 111, 112, 113, 114, 115, 116, 117, 118, 119] 4 (fun kq v15 v111 v112 v113 v114 v115 v116 v117 v118 v119 wx => ∃ j : Nat, v15 = .int .i64 (j : Int) ∧ Aside0 (kq + j = 4) ∧ Aside0 (RI w wx (fCells a) (N.take j ++ S.drop j) v1 (T.take (i + 1))) ∧ Aside0 (wx.heap[G2]? = some (.cells (nums .i64 B).toArray 113 (0, 0))))
              case atStart => exact ⟨0, rfl, ⟨rfl⟩, HI, HY6⟩
              case round =>
                clear HI HY6
                obtain ⟨j, rfl, HG, HI, HX⟩ := hrel
                by_cases hj : j < 4
                · have hj0 : (0 : Int) ≤ j := by omega
                  have hj4 : (j : Int) < 4 := by omega
                  have hj5 : (j : Int) < 5 := by omega
                  have hml : (N.take j ++ S.drop j).length = 4 := by rw [List.length_append, List.length_take, List.length_drop, HNL.out, HST2.out.s4]; omega
                  have hb := nums_at HX.out (i := j) (by rw [HBL.out]; omega)
                  have hoc := nums_at HI.out.sb (i := j) (by rw [hml]; omega)
                  have hof : wr.frozen? ⟨w.heap.size + 1, j, none⟩ = false := blk_frozen HI.out.sb _
                  rw [← HNB.out j hj] at hb
                  obtain ⟨bv, hbv⟩ : ∃ bv, bv = N.getD j 0 := ⟨_, rfl⟩
                  rw [← hbv] at hb
                  have HBV := Aside0.mk hbv
                  obtain ⟨ov, hov⟩ : ∃ ov, ov = (N.take j ++ S.drop j).getD j 0 := ⟨_, rfl⟩
                  rw [← hov] at hoc
                  have hwj : IntKind.i64.wrap ((j : Int) + 1) = ((j + 1 : Nat) : Int) := by rw [i64_w]; unfold wrap64; omega
                  have HJJ := Aside0.mk hj
                  obtain ⟨g2, rfl⟩ : ∃ g2, gk = g2 + 1 := ⟨gk - 1, by have := HG.out; omega⟩
                  have HI4 := Aside0.mk (HI.out.put j bv)
                  rw [HBV.out, mix_set HJJ.out HNL.out HST2.out.s4, ← HBV.out] at HI4
                  have HX4 := Aside0.mk ((Below.heap_setCell wr ⟨w.heap.size + 1, j, none⟩ (.int .i64 bv) G2 (by have := HGG.out; dsimp; omega)).trans HX.out)
                  clear hj hml hbv hov
                  go_wp2
                  go_roundg g2
                  case measure => omega
                  case rel => exact ⟨j + 1, by first | rfl | (congr 1; push_cast; rfl), ⟨by have := HG.out; omega⟩, HI4, HX4⟩
                · obtain rfl : j = 4 := by have := HG.out; omega
                  clear hj
                  have HI9 := Aside0.mk (show RI w wr (fCells a) (stUp K x (i + 1)) v1 (T.take (i + 1)) from by have h1 := HI.out; rw [List.drop_eq_nil_of_le (by rw [HST2.out.s4]; exact Nat.le_refl _), List.append_nil, List.take_of_length_le (by rw [HNL.out]; exact Nat.le_refl _)] at h1; rw [HSS2.out]; exact h1)
                  go_wp2
                  go_roundg g0
                  case measure => omega
                  case rel => exact ⟨i + 1, _, by first | rfl | (congr 1; push_cast; rfl), rfl, ⟨by have := HGO.out; omega⟩, HI9⟩
    · obtain rfl : i = x.length := by have := HG.out; omega
      have hin : ¬ ((x.length : Int) < (x.length : Int)) := by omega
      have HOW := Aside0.mk (show wr.ownsRow w.heap.size 21 1 u8 x.length (nums .i32 T) from by have h1 := HI.out.ow; rw [List.take_of_length_le (by rw [HTL.out]; exact Nat.le_refl _), HTL.out] at h1; exact h1)
      have HBE := Aside0.mk HI.out.be
      clear hi
      go_wp2
      exact bodyPost_ret (v := u8) (by simp [results, Try.results46, go_sem]) rfl ⟨_, rfl, HOW.out, HBE.out⟩
set_option maxHeartbeats 8000000 in
set_option maxRecDepth 100000 in
theorem ref17_Run.down (A : Option Addr) (c : Nat) (x a : List Int) (w : World) (hr : ReadsInt w .i32 A x.length x) (hn : x.length ≤ 120) (hx : ∀ i, In32 (x.getD i 0)) (ha : a.length = 4) (hk : okFilt 1 a) :
    Calls Try.prog 46 #[.slice A x.length c, filtV 1 a, .bool true] w fun e w' => ∃ v, e = .returned v ∧ w'.ownsRow w.heap.size 21 1 v x.length (nums .i32 (downLines (partsL a) x)) ∧ Below w.heap.size w w' := by
  have hk16 : ∀ j, j < 4 → 0 ≤ a.getD j 0 ∧ a.getD j 0 ≤ 16 := fun j hj => by have := hk.2 j hj; omega
  have HAL := Aside0.mk ha
  have HST := Aside0.mk (stDown_ok (partsL_in ha hk16) hx)
  have HXI := Aside0.mk hx
  have HTA := Aside0.mk (fun i hi => downLines_at (partsL a) x (i := i) hi)
  have HTL := Aside0.mk (downLines_length (partsL a) x)
  have HSS := Aside0.mk (show ∀ i, stDown (partsL a) x (i + 1) = nextS (partsL a) (stDown (partsL a) x i) (downL (partsL a) (stDown (partsL a) x i) (x.getD i 0)) from fun i => rfl)
  have HS0 := Aside0.mk (show stDown (partsL a) x 0 = z4 from rfl)
  have HOT := Aside0.mk (show ∀ i, outDown (partsL a) x i = frontDown (partsL a) (stDown (partsL a) x i) (x.getD i 0) 4 from fun i => rfl)
  have HRP := Aside0.mk (show ∀ j, j < 4 → psalteryref17_Part.f 1000 (a.getD j 0) = some ((partsL a).getD j 0) from fun j hj => by
    rw [rpart_of (hk16 j hj).1 (hk16 j hj).2]
    unfold partsL; rw [List.getD_eq_getElem?_getD (l := List.map _ _), List.getElem?_map, List.getD_eq_getElem?_getD, List.getElem?_eq_getElem (by omega)]; rfl)
  obtain ⟨T, hT⟩ : ∃ T, T = downLines (partsL a) x := ⟨_, rfl⟩
  rw [← hT] at HTA HTL ⊢
  obtain ⟨K, hK⟩ : ∃ K, K = partsL a := ⟨_, rfl⟩
  rw [← hK] at HST HTA HSS HS0 HOT HRP
  have HR := Aside0.mk hr
  have HN := Aside0.mk hn
  obtain ⟨a0, a1, a2, a3, h4⟩ := four ha
  have hV : filtV 1 a = .agg #[.int .i64 1, .int .i64 a0, .int .i64 a1, .int .i64 a2, .int .i64 a3] := by rw [h4]; rfl
  have HV := Aside0.mk (show (#[.int .i64 1, .int .i64 a0, .int .i64 a1, .int .i64 a2, .int .i64 a3] : Array Value) = fCells a from by rw [h4]; rfl)
  rw [hV]
  clear hr hn hx ha hk hk16 hT hK h4 hV
  have HI1 := Aside0.mk (show RI w ((w.alloc (.cells (fCells a) 63)).alloc (.cells (nums .i64 z4).toArray 132)) (fCells a) z4 (.slice none 0 0) [] from ⟨(two_new w _ _).1, (two_new w _ _).2, own_nil _ _ _ _, below_alloc (below_alloc (Below.refl w.heap.size w) _) _⟩)
  go_enter Try.func46, Try.ntmps46
  go_wp2
  rw [HV.out]
  change Code.wp _ _ _ _ ((w.alloc (.cells (fCells a) 63)).alloc (.cells (nums .i64 z4).toArray 132))
  generalize (w.alloc (.cells (fCells a) 63)).alloc (.cells (nums .i64 z4).toArray 132) = w2 at HI1 ⊢
  have HI1 := Aside0.mk (show RI w w2 (fCells a) (stDown K x 0) (.slice none 0 0) (T.take 0) from by rw [HS0.out]; exact HI1.out)
  go_loopg [8, 9, 10, 11, 12, 13, 14, 15, 16, 17, 18, 19, 20, 21, 22, 23, 24, 25, 26, 27, 28, 29, 30, 31, 32, 33, 34, 35, 36, 37, 38, 39, 40, 41, 42, 43, 44, 45, 46, 47, 48, 49, 50, 51, 52, 53, 54, 55, 56, 57, 58, 59, 60, 61, 62, 63, 64, 65, 66, 67, 68, 69, 70, 71, 72, 73, 74, 75, 76, 77, 78, 79, 80, 81, 82, 83, 84, 85, 86, 87, 88, 89, 90, 91, 92, 93, 94, 95, 96, 97, 98, 99, 100, 101, 102, 103, 104, 105, 106, 107, 108, 109, 110, 111, 112, 113, 114, 115, 116, 117, 118, 119] x.length (fun kq v8 v9 v10 v11 v12 v13 v14 v15 v16 v17 v18 v19 v20 v21 v22 v23 v24 v25 v26 v27 v28 v29 v30 v31 v32 v33 v34 v35 v36 v37 v38 v39 v40 v41 v42 v43 v44 v45 v46 v47 v48 v49 v50 v51 v52 v53 v54 v55 v56 v57 v58 v59 v60 v61 v62 v63 v64 v65 v66 v67 v68 v69 v70 v71 v72 v73 v74 v75 v76 v77 v78 v79 v80 v81 v82 v83 v84 v85 v86 v87 v88 v89 v90 v91 v92 v93 v94 v95 v96 v97 v98 v99 v100 v101 v102 v103 v104 v105 v106 v107 v108 v109 v110 v111 v112 v113 v114 v115 v116 v117 v118 v119 wx => ∃ (i : Nat) (u : Value), v9 = .int .i64 (i : Int) ∧ v8 = u ∧ Aside0 (kq + i = x.length) ∧ Aside0 (RI w wx (fCells a) (stDown K x i) u (T.take i)))
  case atStart => exact ⟨0, _, rfl, rfl, ⟨rfl⟩, HI1⟩
  case round =>
    clear HI1
    obtain ⟨i, u, rfl, rfl, HG, HI⟩ := hrel
    by_cases hi : i < x.length
    · have hi0 : (0 : Int) ≤ i := by omega
      have hin : (i : Int) < (x.length : Int) := by omega
      have hsz := blk_lt HI.out.sb
      have HSZ := Aside0.mk hsz
      obtain ⟨ad, eA, hcell⟩ := (reads_below HR.out HI.out.be).2.2 (by omega)
      subst eA
      have hxc := hcell i hi
      have HII := Aside0.mk hi
      have HST2 := Aside0.mk (HST.out i)
      have HXI2 := Aside0.mk (HXI.out i)
      have HTA2 := Aside0.mk ((HTA.out i hi).trans (HOT.out i))
      have HSS2 := Aside0.mk (HSS.out i)
      obtain ⟨xi, hxi⟩ : ∃ xi, xi = x.getD i 0 := ⟨_, rfl⟩
      rw [← hxi] at hxc HXI2 HTA2 HSS2
      obtain ⟨S, hS⟩ : ∃ S, S = stDown K x i := ⟨_, rfl⟩
      rw [← hS] at HI HST2 HTA2 HSS2
      have hxw : wrap64 xi = xi := by have := HXI2.out.1; have := HXI2.out.2; unfold wrap64; omega
      have hxw2 : IntKind.i64.wrap xi = xi := by rw [i64_w]; exact hxw
      have hwi : IntKind.i64.wrap ((i : Int) + 1) = ((i + 1 : Nat) : Int) := by rw [i64_w]; unfold wrap64; have := HN.out; omega
      have hxc2 := ((below_alloc (Below.refl wr.heap.size wr) (.cells #[.int .i64 0, .int .i64 0, .int .i64 0, .int .i64 0, .int .i64 0] 113)).cell (World.block_lt_of_cell? wr _ hxc)).trans hxc
      clear hcell hi hxi hS hsz hxc
      obtain ⟨g0, rfl⟩ : ∃ g0, gk = g0 + 1 := ⟨gk - 1, by have := HG.out; have := HII.out; omega⟩
      have HGO := Aside0.mk HG.out
      obtain ⟨F, hF⟩ : ∃ F, F = downL K S xi := ⟨_, rfl⟩
      have HUA := Aside0.mk (show ∀ j, j < 5 → F.getD j 0 = frontDown K S xi (4 - j) from fun j hj => by rw [hF]; exact downL_at K S xi hj)
      have HUL := Aside0.mk (show F.length = 5 from by rw [hF]; exact downL_length K S xi)
      have HIN := Aside0.mk (fun j => frontDown_in (K := K) (S := S) HXI2.out j)
      rw [← hF] at HSS2
      have HX0 := Aside0.mk (show xi = F.getD 4 0 from by rw [HUA.out 4 (by decide)]; rfl)
      clear hF
      have HI3 := Aside0.mk (HI.out.later (below_alloc (Below.refl wr.heap.size wr) (.cells #[.int .i64 0, .int .i64 0, .int .i64 0, .int .i64 0, .int .i64 xi] 113)))
      have HX3 := Aside0.mk (show (wr.alloc (.cells #[.int .i64 0, .int .i64 0, .int .i64 0, .int .i64 0, .int .i64 xi] 113)).heap[wr.heap.size]? = some (.cells (nums .i64 (z5.take 4 ++ F.drop 4)).toArray 113 (0, 0)) from by rw [drop_four F xi HUL.out HX0.out]; exact blk_new wr _)
      clear HX0 HI
      go_wp2
      generalize wr.alloc (.cells #[.int .i64 0, .int .i64 0, .int .i64 0, .int .i64 0, .int .i64 xi] 113) = w3 at HI3 HX3 ⊢
      clear hxc2
      generalize wr.heap.size = G at HX3 HSZ ⊢
      go_loopg [11, 29, 30, 31, 32, 33, 34, 35, 36, 37, 38, 39, 40, 41, 42, 43, 44, 45, 46, 47, 48, 49] 4 (fun kq v11 v29 v30 v31 v32 v33 v34 v35 v36 v37 v38 v39 v40 v41 v42 v43 v44 v45 v46 v47 v48 v49 wx => ∃ m : Nat, v11 = .int .i64 ((m : Int) - 1) ∧ Aside0 (kq = m ∧ m ≤ 4) ∧ Aside0 (RI w wx (fCells a) S u8 (T.take i)) ∧ Aside0 (wx.heap[G]? = some (.cells (nums .i64 (z5.take m ++ F.drop m)).toArray 113 (0, 0))))
      case atStart => exact ⟨4, rfl, ⟨rfl, by decide⟩, HI3, HX3⟩
      case round =>
        clear HI3 HX3
        obtain ⟨mm, rfl, HG, HI, HX⟩ := hrel
        by_cases hm0 : 0 < mm
        · obtain ⟨j, rfl⟩ : ∃ j, mm = j + 1 := ⟨mm - 1, by omega⟩
          have hj : j < 4 := by have := HG.out; omega
          rw [show (((j + 1 : Nat) : Int) - 1) = (j : Int) from by omega]
          have HGG := Aside0.mk HSZ.out
          have HXO := Aside0.mk HX.out
          have hml : (z5.take (j + 1) ++ F.drop (j + 1)).length = 5 := by rw [List.length_append, List.length_take, List.length_drop, HUL.out]; show min (j + 1) 5 + (5 - (j + 1)) = 5; omega
          have hj0 : (0 : Int) ≤ j := by omega
          have hj4 : (j : Int) < 4 := by omega
          have hj5 : (j : Int) < 5 := by omega
          have hk5 : (j : Int) + 1 < 5 := by omega
          have hk0 : (0 : Int) ≤ (j : Int) + 1 := by omega
          have hn5 : j + 1 < 5 := by omega
          have ht1 : ((j : Int) + 1).toNat = j + 1 := by omega
          have hwj : IntKind.i64.wrap ((j : Int) + 1) = (j : Int) + 1 := by rw [i64_w]; unfold wrap64; omega
          have hwd : IntKind.i64.wrap ((j : Int) - 1) = (j : Int) - 1 := by rw [i64_w]; unfold wrap64; omega
          have hs := nums_at HI.out.sb (i := j) (by rw [HST2.out.s4]; exact hj)
          have hd := fcell HI.out.fb (j := j) (by rw [HAL.out]; exact hj)
          have hP := HRP.out j hj
          have hsi := HST2.out.si j hj
          have hki := HST2.out.ki j hj
          have HJJ := Aside0.mk hj
          have hf := nums_at HX.out (i := j + 1) (by rw [hml]; omega)
          rw [mix_after (n := 5) (Nat.le_refl _) (by omega) rfl HUL.out, HUA.out (j + 1) (by omega)] at hf
          have hoc := nums_at HX.out (i := j) (by rw [hml]; omega)
          have hfi := HIN.out (4 - (j + 1))
          have hnew := HUA.out j (by omega)
          rw [show 4 - j = (4 - (j + 1)) + 1 from by omega, show frontDown K S xi (4 - (j + 1) + 1) = subS (frontDown K S xi (4 - (j + 1))) (mul15 (S.getD (3 - (4 - (j + 1))) 0) (K.getD (3 - (4 - (j + 1))) 0)) from rfl, show 3 - (4 - (j + 1)) = j from by omega] at hnew
          generalize frontDown K S xi (4 - (j + 1)) = f at hf hfi hnew
          obtain ⟨ov, hov⟩ : ∃ ov, ov = (z5.take (j + 1) ++ F.drop (j + 1)).getD j 0 := ⟨_, rfl⟩
          rw [← hov] at hoc
          generalize S.getD j 0 = s at hs hsi hnew
          generalize K.getD j 0 = kk at hP hki hnew
          generalize a.getD j 0 = ix at hd hP
          have HP := Aside0.mk hP
          obtain ⟨m, hm⟩ : ∃ m, m = mul15 s kk := ⟨_, rfl⟩
          have HM := Aside0.mk (show psalteryref17_mul.f s kk = some m from by rw [hm]; exact rMul_of hsi hki)
          have hmi : In32 m := by rw [hm]; exact mul15_in _ _
          rw [← hm] at hnew
          obtain ⟨nx, hnx⟩ : ∃ nx, nx = subS f m := ⟨_, rfl⟩
          have hng : IntKind.i64.wrap (-m) = -m := by rw [i64_w]; have := hmi.1; have := hmi.2; unfold wrap64; omega
          have HA := Aside0.mk (show psalteryref17_add.f f (-m) = some nx from by rw [hnx, rAdd_of hfi ⟨by have := hmi.2; omega, by have := hmi.1; omega⟩]; unfold addS subS; rw [← Int.sub_eq_add_neg])
          rw [← hnx] at hnew
          have HNW := Aside0.mk hnew
          obtain ⟨g1, rfl⟩ : ∃ g1, gk = g1 + 1 := ⟨gk - 1, by have := HG.out; omega⟩
          clear hm hnx hnew hsi hki hfi hmi hml hj hov hP hm0
          have HCS := Aside0.mk (fun (W : World) (hb : Below wr.heap.size wr W) => (hb.cell (World.block_lt_of_cell? wr _ hs)).trans hs)
          have HCD := Aside0.mk (fun (W : World) (hb : Below wr.heap.size wr W) => (hb.cell (World.block_lt_of_cell? wr _ hd)).trans hd)
          have HCF := Aside0.mk (fun (W : World) (hb : Below wr.heap.size wr W) => (hb.cell (World.block_lt_of_cell? wr _ hf)).trans hf)
          have HCO := Aside0.mk (fun (W : World) (hb : Below wr.heap.size wr W) => (hb.cell (World.block_lt_of_cell? wr _ hoc)).trans hoc)
          have HBd := Aside0.mk (below_drew (Below.refl wr.heap.size wr))
          go_wp2
          have hsd : wr.drew.cell? ⟨w.heap.size + 1, j, none⟩ = some (.int .i64 s) := hs
          have hdd : wr.drew.cell? ⟨w.heap.size, 1 + j, none⟩ = some (.int .i64 ix) := hd
          have hfd : wr.drew.cell? ⟨G, j + 1, none⟩ = some (.int .i64 f) := hf
          have hs6 : ∀ W : World, W.cell? ⟨w.heap.size + 1, j, none⟩ = some (.int .i64 s) → (W.setCell ⟨G, j, none⟩ (.int .i64 nx)).cell? ⟨w.heap.size + 1, j, none⟩ = some (.int .i64 s) := fun W h => by rw [cell_far W (by have := HGG.out; omega)]; exact h
          have hd6 : ∀ W : World, W.cell? ⟨w.heap.size, 1 + j, none⟩ = some (.int .i64 ix) → (W.setCell ⟨G, j, none⟩ (.int .i64 nx)).cell? ⟨w.heap.size, 1 + j, none⟩ = some (.int .i64 ix) := fun W h => by rw [cell_far W (by have := HGG.out; omega)]; exact h
          have hf6 : ∀ W : World, W.cell? ⟨G, j + 1, none⟩ = some (.int .i64 f) → (W.setCell ⟨G, j, none⟩ (.int .i64 nx)).cell? ⟨G, j + 1, none⟩ = some (.int .i64 f) := fun W h => by rw [cell_near W (by omega)]; exact h
          go_region_held3 (fun W => W.cell? ⟨w.heap.size + 1, j, none⟩ = some (.int .i64 s) ∧ W.cell? ⟨w.heap.size, 1 + j, none⟩ = some (.int .i64 ix) ∧ W.cell? ⟨G, j + 1, none⟩ = some (.int .i64 f)) (first | exact ⟨hs, hd, hf⟩ | exact ⟨hsd, hdd, hfd⟩ | exact ⟨hs3, hd3, hf3⟩ | exact ⟨hs4, hd4, hf4⟩ | exact ⟨hs5, hd5, hf5⟩ | exact ⟨hs6 _ hs5, hd6 _ hd5, hf6 _ hf5⟩)
            (first | (go_at_call 45; refine (psalteryref17_Part.calls 1000 ix kk _ HP.out).mono ?_; rintro e w3 ⟨rfl, hb_⟩; have HB3 := Aside0.mk (below_step HBd.out hb_); have hs3 := HCS.out _ HB3.out; have hd3 := HCD.out _ HB3.out; have hf3 := HCF.out _ HB3.out; clear hb_) | (go_at_call 82; refine (psalteryref17_mul.calls s kk m _ HM.out).mono ?_; rintro e w4 ⟨rfl, hb_⟩; have HB4 := Aside0.mk (below_step HB3.out hb_); have hs4 := HCS.out _ HB4.out; have hd4 := HCD.out _ HB4.out; have hf4 := HCF.out _ HB4.out; clear hb_) | (go_at_call 81; refine (psalteryref17_add.calls f (-m) nx _ HA.out).mono ?_; rintro e w5 ⟨rfl, hb_⟩; obtain ⟨q8, hq8⟩ := hb_.out; have HB5 := Aside0.mk (show Below wr.heap.size wr w5 from (by rw [hq8]; exact pw_below_drewN HB4.out _)); have hs5 := HCS.out _ HB5.out; have hd5 := HCD.out _ HB5.out; have hf5 := HCF.out _ HB5.out; have hoc5 := HCO.out _ HB5.out; have hof5 : w5.frozen? ⟨G, j, none⟩ = false := blk_frozen (box_later HXO.out HB5.out) _; clear hb_ hq8))
          have HI5 := Aside0.mk (HI.out.later HB5.out)
          have HX5 := Aside0.mk (box_later HX.out HB5.out)
          have HXO5 := Aside0.mk (box_later HXO.out HB5.out)
          have HI6 := Aside0.mk (HI5.out.far HXO5.out (by have := HGG.out; omega) (j) (.int .i64 nx))
          have HX6 := Aside0.mk (blk_store HX5.out j nx)
          rw [← HNW.out, mix_down (n := 5) (by have := HJJ.out; omega) rfl HUL.out, HNW.out] at HX6
          clear hs hd hf hsd hdd hfd hs3 hd3 hf3 hs4 hd4 hf4 hs5 hd5 hf5 hs6 hd6 hf6 hoc hoc5 hof5
          try clear hHeld
          go_wp2
          go_roundg g1
          case measure => omega
          case rel => exact ⟨j, by first | rfl | (congr 1; push_cast; rfl), ⟨by have := HG.out; omega⟩, HI6, HX6⟩
        · obtain rfl : mm = 0 := by omega
          clear hm0
          have HX6 := Aside0.mk (show wr.heap[G]? = some (.cells (nums .i64 F).toArray 113 (0, 0)) from HX.out)
          obtain ⟨f0, f1, f2, f3, f4, h5⟩ := five HUL.out
          have hcs := fun (W : World) (g : W.heap[G]? = some (.cells (nums .i64 F).toArray 113 (0, 0))) (k : Nat) (v : Value) (hv : (nums .i64 F).toArray[k]? = some v) => (blk_cell g k).trans hv
          have HCS := Aside0.mk hcs
          have hfo : IntKind.i32.wrap f0 = f0 := by
            have h := HIN.out 4
            have h2 := HUA.out 0 (by decide)
            rw [h5] at h2
            have h3 : f0 = frontDown K S xi 4 := h2
            rw [← h3] at h
            have h6 := h.1
            have h7 := h.2
            rw [i32_w]; unfold wrap32; omega
          have x0 := hcs _ HX6.out 0 (.int .i64 f0) (by rw [h5]; rfl)

          have hy0 : f0 = F.getD 0 0 := by rw [h5]; rfl
          have HF0 := Aside0.mk hy0
          have HTT := Aside0.mk (show f0 = T.getD i 0 from by rw [HTA2.out]; have h2 := HUA.out 0 (by decide); rw [h5] at h2; exact h2)
          have HH5 := Aside0.mk (show (nums .i64 F).toArray[0]? = some (.int .i64 f0) from by rw [h5]; rfl)
          have HTI := Aside0.mk (show (T.take i).length = i from by rw [List.length_take, HTL.out]; have := HII.out; omega)
          clear h5 hcs hy0
          go_wp2_with (first | (at_builtin; refine print_append_num (w0 := w) (W := wr) w.heap.size rfl (.tmp 50) (.tmp 54) 41 21 .i32 4 rfl Try.underlying41 info_i32 (by decide) u8 (T.take i) f0 rfl rfl HI.out.ow HI.out.be (below_size HI.out.be) (by rw [HTI.out]; have h1_ := HN.out; have h2_ := HII.out; omega) ?_; intro v1 w7 g1 g2 g3 g4; have HI7 := Aside0.mk (HI.out.grow g1 g2 g3); have HX7 := Aside0.mk ((g3.block _ (blk_lt HX6.out) (own_ne HI.out.ow HX6.out (by decide))).trans HX6.out); have x7 := HCS.out _ (box_later HX7.out (below_alloc (Below.refl w7.heap.size w7) (.cells #[.int .i64 0, .int .i64 0, .int .i64 0, .int .i64 0, .int .i64 0] 113))) 0 _ HH5.out; clear g1 g2 g3 g4))
          have HI7 := Aside0.mk (show RI w w7 (fCells a) S v1 (T.take (i + 1)) from by have h := HI7.out; rw [HTT.out, take_next (by rw [HTL.out]; exact HII.out)] at h; exact h)
          obtain ⟨B, hB⟩ : ∃ B, B = backL K S F := ⟨_, rfl⟩
          have HBA := Aside0.mk (show ∀ j, j < 5 → B.getD j 0 = backV K S F j from fun j hj => by rw [hB]; exact backL_at K S F hj)
          have HBL := Aside0.mk (show B.length = 5 from by rw [hB]; exact backL_length K S F)
          have HNB := Aside0.mk (show ∀ j, j < 4 → (nextS K S F).getD j 0 = B.getD j 0 from fun j hj => by rw [hB, backL_at K S F (by omega), nextS_at K S F hj])
          have HB0 := Aside0.mk (show f0 = B.getD 0 0 from by rw [HBA.out 0 (by decide), HF0.out]; rfl)
          clear hB
          have HFI := Aside0.mk (show ∀ j, j < 5 → In32 (F.getD j 0) from fun j hj => by rw [HUA.out j hj]; exact HIN.out _)
          have HI8 := Aside0.mk (HI7.out.later (below_alloc (Below.refl w7.heap.size w7) (.cells #[.int .i64 f0, .int .i64 0, .int .i64 0, .int .i64 0, .int .i64 0] 113)))
          have HX8 := Aside0.mk (box_later HX7.out (below_alloc (Below.refl w7.heap.size w7) (.cells #[.int .i64 f0, .int .i64 0, .int .i64 0, .int .i64 0, .int .i64 0] 113)))
          have HY8 := Aside0.mk (show (w7.alloc (.cells #[.int .i64 f0, .int .i64 0, .int .i64 0, .int .i64 0, .int .i64 0] 113)).heap[w7.heap.size]? = some (.cells (nums .i64 (B.take 1 ++ z5.drop 1)).toArray 113 (0, 0)) from by rw [take_one B f0 (by rw [HBL.out]; decide) HB0.out]; exact blk_new w7 _)
          have HG2 := Aside0.mk (show G < w7.heap.size from blk_lt HX7.out)
          clear x7 x0 HI HX HX6 HI7 HX7 HCS
          try clear x4
          go_wp2
          generalize w7.alloc (.cells #[.int .i64 f0, .int .i64 0, .int .i64 0, .int .i64 0, .int .i64 0] 113) = w8 at HI8 HX8 HY8 ⊢
          generalize w7.heap.size = G2 at HY8 HG2 ⊢
          generalize u8 = uo at *
          go_loopg [14, 91, 92, 93, 94, 95, 96, 97, 98, 99, 100, 101, 102, 103, 104, 105, 106, 107, 108, 109, 110] 4 (fun kq v14 v91 v92 v93 v94 v95 v96 v97 v98 v99 v100 v101 v102 v103 v104 v105 v106 v107 v108 v109 v110 wx => ∃ j : Nat, v14 = .int .i64 (j : Int) ∧ Aside0 (kq + j = 4) ∧ Aside0 (RI w wx (fCells a) S v1 (T.take (i + 1))) ∧ Aside0 (wx.heap[G]? = some (.cells (nums .i64 F).toArray 113 (0, 0))) ∧ Aside0 (wx.heap[G2]? = some (.cells (nums .i64 (B.take (j + 1) ++ z5.drop (j + 1))).toArray 113 (0, 0))))
          case atStart => exact ⟨0, rfl, ⟨rfl⟩, HI8, HX8, HY8⟩
          case round =>
            clear HI8 HX8 HY8
            obtain ⟨j, rfl, HG, HI, HX, HXO⟩ := hrel
            have HGG := Aside0.mk (show w.heap.size + 1 < G ∧ G < G2 from ⟨HSZ.out, HG2.out⟩)
            by_cases hj : j < 4
            · have hml : (B.take (j + 1) ++ z5.drop (j + 1)).length = 5 := by rw [List.length_append, List.length_take, List.length_drop, HBL.out]; show min (j + 1) 5 + (5 - (j + 1)) = 5; omega
              have hj0 : (0 : Int) ≤ j := by omega
              have hj4 : (j : Int) < 4 := by omega
              have hj5 : (j : Int) < 5 := by omega
              have hk5 : (j : Int) + 1 < 5 := by omega
              have hk0 : (0 : Int) ≤ (j : Int) + 1 := by omega
              have hn5 : j + 1 < 5 := by omega
              have ht1 : ((j : Int) + 1).toNat = j + 1 := by omega
              have hwj : IntKind.i64.wrap ((j : Int) + 1) = (j : Int) + 1 := by rw [i64_w]; unfold wrap64; omega
              have hs := nums_at HI.out.sb (i := j) (by rw [HST2.out.s4]; exact hj)
              have hd := fcell HI.out.fb (j := j) (by rw [HAL.out]; exact hj)
              have hP := HRP.out j hj
              have hsi := HST2.out.si j hj
              have hki := HST2.out.ki j hj
              have HJJ := Aside0.mk hj
              have hf := nums_at HX.out (i := j) (by rw [HUL.out]; omega)
              have hoc := nums_at HXO.out (i := j + 1) (by rw [hml]; omega)
              have hfi := HFI.out j (by omega)
              have hnew := HBA.out (j + 1) (by omega)
              rw [show backV K S F (j + 1) = addS (S.getD j 0) (mul15 (F.getD j 0) (K.getD j 0)) from rfl] at hnew
              generalize F.getD j 0 = f at hf hfi hnew
              obtain ⟨ov, hov⟩ : ∃ ov, ov = (B.take (j + 1) ++ z5.drop (j + 1)).getD (j + 1) 0 := ⟨_, rfl⟩
              rw [← hov] at hoc
              generalize S.getD j 0 = s at hs hsi hnew
              generalize K.getD j 0 = kk at hP hki hnew
              generalize a.getD j 0 = ix at hd hP
              have HP := Aside0.mk hP
              obtain ⟨m, hm⟩ : ∃ m, m = mul15 f kk := ⟨_, rfl⟩
              have HM := Aside0.mk (show psalteryref17_mul.f f kk = some m from by rw [hm]; exact rMul_of hfi hki)
              have hmi : In32 m := by rw [hm]; exact mul15_in _ _
              rw [← hm] at hnew
              obtain ⟨nx, hnx⟩ : ∃ nx, nx = addS s m := ⟨_, rfl⟩
              have HA := Aside0.mk (show psalteryref17_add.f s m = some nx from by rw [hnx]; exact rAdd_of hsi ⟨hmi.1, by have := hmi.2; omega⟩)
              rw [← hnx] at hnew
              have HNW := Aside0.mk hnew
              obtain ⟨g1, rfl⟩ : ∃ g1, gk = g1 + 1 := ⟨gk - 1, by have := HG.out; omega⟩
              clear hm hnx hnew hsi hki hfi hmi hml hj hov hP
              have HCS := Aside0.mk (fun (W : World) (hb : Below wr.heap.size wr W) => (hb.cell (World.block_lt_of_cell? wr _ hs)).trans hs)
              have HCD := Aside0.mk (fun (W : World) (hb : Below wr.heap.size wr W) => (hb.cell (World.block_lt_of_cell? wr _ hd)).trans hd)
              have HCF := Aside0.mk (fun (W : World) (hb : Below wr.heap.size wr W) => (hb.cell (World.block_lt_of_cell? wr _ hf)).trans hf)
              have HCO := Aside0.mk (fun (W : World) (hb : Below wr.heap.size wr W) => (hb.cell (World.block_lt_of_cell? wr _ hoc)).trans hoc)
              have HBd := Aside0.mk (below_drew (Below.refl wr.heap.size wr))
              go_wp2
              have hsd : wr.drew.cell? ⟨w.heap.size + 1, j, none⟩ = some (.int .i64 s) := hs
              have hdd : wr.drew.cell? ⟨w.heap.size, 1 + j, none⟩ = some (.int .i64 ix) := hd
              have hfd : wr.drew.cell? ⟨G, j, none⟩ = some (.int .i64 f) := hf
              have hs6 : ∀ W : World, W.cell? ⟨w.heap.size + 1, j, none⟩ = some (.int .i64 s) → (W.setCell ⟨G2, j + 1, none⟩ (.int .i64 nx)).cell? ⟨w.heap.size + 1, j, none⟩ = some (.int .i64 s) := fun W h => by rw [cell_far W (by have := HGG.out; omega)]; exact h
              have hd6 : ∀ W : World, W.cell? ⟨w.heap.size, 1 + j, none⟩ = some (.int .i64 ix) → (W.setCell ⟨G2, j + 1, none⟩ (.int .i64 nx)).cell? ⟨w.heap.size, 1 + j, none⟩ = some (.int .i64 ix) := fun W h => by rw [cell_far W (by have := HGG.out; omega)]; exact h
              have hf6 : ∀ W : World, W.cell? ⟨G, j, none⟩ = some (.int .i64 f) → (W.setCell ⟨G2, j + 1, none⟩ (.int .i64 nx)).cell? ⟨G, j, none⟩ = some (.int .i64 f) := fun W h => by rw [cell_far W (by have := HGG.out; omega)]; exact h
              go_region_held3 (fun W => W.cell? ⟨w.heap.size + 1, j, none⟩ = some (.int .i64 s) ∧ W.cell? ⟨w.heap.size, 1 + j, none⟩ = some (.int .i64 ix) ∧ W.cell? ⟨G, j, none⟩ = some (.int .i64 f)) (first | exact ⟨hs, hd, hf⟩ | exact ⟨hsd, hdd, hfd⟩ | exact ⟨hs3, hd3, hf3⟩ | exact ⟨hs4, hd4, hf4⟩ | exact ⟨hs5, hd5, hf5⟩ | exact ⟨hs6 _ hs5, hd6 _ hd5, hf6 _ hf5⟩)
                (first | (go_at_call 45; refine (psalteryref17_Part.calls 1000 ix kk _ HP.out).mono ?_; rintro e w3 ⟨rfl, hb_⟩; have HB3 := Aside0.mk (below_step HBd.out hb_); have hs3 := HCS.out _ HB3.out; have hd3 := HCD.out _ HB3.out; have hf3 := HCF.out _ HB3.out; clear hb_) | (go_at_call 82; refine (psalteryref17_mul.calls f kk m _ HM.out).mono ?_; rintro e w4 ⟨rfl, hb_⟩; have HB4 := Aside0.mk (below_step HB3.out hb_); have hs4 := HCS.out _ HB4.out; have hd4 := HCD.out _ HB4.out; have hf4 := HCF.out _ HB4.out; clear hb_) | (go_at_call 81; refine (psalteryref17_add.calls s m nx _ HA.out).mono ?_; rintro e w5 ⟨rfl, hb_⟩; obtain ⟨q8, hq8⟩ := hb_.out; have HB5 := Aside0.mk (show Below wr.heap.size wr w5 from (by rw [hq8]; exact pw_below_drewN HB4.out _)); have hs5 := HCS.out _ HB5.out; have hd5 := HCD.out _ HB5.out; have hf5 := HCF.out _ HB5.out; have hoc5 := HCO.out _ HB5.out; have hof5 : w5.frozen? ⟨G2, j + 1, none⟩ = false := blk_frozen (box_later HXO.out HB5.out) _; clear hb_ hq8))
              have HI5 := Aside0.mk (HI.out.later HB5.out)
              have HX5 := Aside0.mk (box_later HX.out HB5.out)
              have HXO5 := Aside0.mk (box_later HXO.out HB5.out)
              have HI6 := Aside0.mk (HI5.out.far HXO5.out (by have := HGG.out; omega) (j + 1) (.int .i64 nx))
              have HX6 := Aside0.mk ((Below.heap_setCell w5 ⟨G2, j + 1, none⟩ (.int .i64 nx) G (by have := HGG.out; dsimp; omega)).trans HX5.out)
              have HXO6 := Aside0.mk (blk_store HXO5.out (j + 1) nx)
              rw [← HNW.out, mix_set (by have := HJJ.out; omega) HBL.out rfl, HNW.out] at HXO6
              clear hs hd hf hsd hdd hfd hs3 hd3 hf3 hs4 hd4 hf4 hs5 hd5 hf5 hs6 hd6 hf6 hoc hoc5 hof5
              try clear hHeld
              go_wp2
              go_roundg g1
              case measure => omega
              case rel => exact ⟨j + 1, by first | rfl | (congr 1; push_cast; rfl), ⟨by have := HG.out; omega⟩, HI6, HX6, HXO6⟩
            · obtain rfl : j = 4 := by have := HG.out; omega
              clear hj
              have HY6 := Aside0.mk (show wr.heap[G2]? = some (.cells (nums .i64 B).toArray 113 (0, 0)) from by have h1 := HXO.out; rw [show z5.drop (4 + 1) = [] from rfl, List.append_nil, List.take_of_length_le (by rw [HBL.out]; exact Nat.le_refl _)] at h1; exact h1)
              clear HX HXO
              go_wp2
              obtain ⟨N, hN⟩ : ∃ N, N = nextS K S F := ⟨_, rfl⟩
              rw [← hN] at HNB HSS2
              have HNL := Aside0.mk (show N.length = 4 from by rw [hN]; exact nextS_length _ _ _)
              clear hN
              go_loopg [15, 111, 112, 113, 114, 115, 116, 117, 118, 119] 4 (fun kq v15 v111 v112 v113 v114 v115 v116 v117 v118 v119 wx => ∃ j : Nat, v15 = .int .i64 (j : Int) ∧ Aside0 (kq + j = 4) ∧ Aside0 (RI w wx (fCells a) (N.take j ++ S.drop j) v1 (T.take (i + 1))) ∧ Aside0 (wx.heap[G2]? = some (.cells (nums .i64 B).toArray 113 (0, 0))))
              case atStart => exact ⟨0, rfl, ⟨rfl⟩, HI, HY6⟩
              case round =>
                clear HI HY6
                obtain ⟨j, rfl, HG, HI, HX⟩ := hrel
                by_cases hj : j < 4
                · have hj0 : (0 : Int) ≤ j := by omega
                  have hj4 : (j : Int) < 4 := by omega
                  have hj5 : (j : Int) < 5 := by omega
                  have hml : (N.take j ++ S.drop j).length = 4 := by rw [List.length_append, List.length_take, List.length_drop, HNL.out, HST2.out.s4]; omega
                  have hb := nums_at HX.out (i := j) (by rw [HBL.out]; omega)
                  have hoc := nums_at HI.out.sb (i := j) (by rw [hml]; omega)
                  have hof : wr.frozen? ⟨w.heap.size + 1, j, none⟩ = false := blk_frozen HI.out.sb _
                  rw [← HNB.out j hj] at hb
                  obtain ⟨bv, hbv⟩ : ∃ bv, bv = N.getD j 0 := ⟨_, rfl⟩
                  rw [← hbv] at hb
                  have HBV := Aside0.mk hbv
                  obtain ⟨ov, hov⟩ : ∃ ov, ov = (N.take j ++ S.drop j).getD j 0 := ⟨_, rfl⟩
                  rw [← hov] at hoc
                  have hwj : IntKind.i64.wrap ((j : Int) + 1) = ((j + 1 : Nat) : Int) := by rw [i64_w]; unfold wrap64; omega
                  have HJJ := Aside0.mk hj
                  obtain ⟨g2, rfl⟩ : ∃ g2, gk = g2 + 1 := ⟨gk - 1, by have := HG.out; omega⟩
                  have HI4 := Aside0.mk (HI.out.put j bv)
                  rw [HBV.out, mix_set HJJ.out HNL.out HST2.out.s4, ← HBV.out] at HI4
                  have HX4 := Aside0.mk ((Below.heap_setCell wr ⟨w.heap.size + 1, j, none⟩ (.int .i64 bv) G2 (by have := HGG.out; dsimp; omega)).trans HX.out)
                  clear hj hml hbv hov
                  go_wp2
                  go_roundg g2
                  case measure => omega
                  case rel => exact ⟨j + 1, by first | rfl | (congr 1; push_cast; rfl), ⟨by have := HG.out; omega⟩, HI4, HX4⟩
                · obtain rfl : j = 4 := by have := HG.out; omega
                  clear hj
                  have HI9 := Aside0.mk (show RI w wr (fCells a) (stDown K x (i + 1)) v1 (T.take (i + 1)) from by have h1 := HI.out; rw [List.drop_eq_nil_of_le (by rw [HST2.out.s4]; exact Nat.le_refl _), List.append_nil, List.take_of_length_le (by rw [HNL.out]; exact Nat.le_refl _)] at h1; rw [HSS2.out]; exact h1)
                  go_wp2
                  go_roundg g0
                  case measure => omega
                  case rel => exact ⟨i + 1, _, by first | rfl | (congr 1; push_cast; rfl), rfl, ⟨by have := HGO.out; omega⟩, HI9⟩
    · obtain rfl : i = x.length := by have := HG.out; omega
      have hin : ¬ ((x.length : Int) < (x.length : Int)) := by omega
      have HOW := Aside0.mk (show wr.ownsRow w.heap.size 21 1 u8 x.length (nums .i32 T) from by have h1 := HI.out.ow; rw [List.take_of_length_le (by rw [HTL.out]; exact Nat.le_refl _), HTL.out] at h1; exact h1)
      have HBE := Aside0.mk HI.out.be
      clear hi
      go_wp2
      exact bodyPost_ret (v := u8) (by simp [results, Try.results46, go_sem]) rfl ⟨_, rfl, HOW.out, HBE.out⟩
end Go.Proofs.Ytblehkoonajofaa.PTns
