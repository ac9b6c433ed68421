/- Shape: where the lines are no block. -/
import Derived.Test.YtblehkoonajofaaShapeFind
namespace Go.Proofs.Ytblehkoonajofaa.PShape
open Go.RowKit Go.Proofs.YtblehkoonajofaaW.PrintWords Go.Proofs.YtblehkoonajofaaW.PrintLast Go.Proofs.YtblehkoonajofaaW.PrintMore
attribute [local go_sem] max2_int min2_int max_two min_two max_three min_three max_four min_four   -- for this text's walks alone
set_option linter.unusedVariables false
set_option linter.unusedSimpArgs false
set_option maxRecDepth 100000 in
theorem ref_Check.calls (c : Int) (r : List Int) (hr : r.length = 8) (w : World) : Calls Try.prog 40 #[shapeV c r] w fun e w' => ∃ b : Bool, e = .returned (.bool b) ∧ (b = true ↔ okShape c r) ∧ Below w.heap.size w w' := by
  obtain ⟨r0, r1, r2, r3, r4, r5, r6, r7, rfl⟩ := eight hr
  clear hr
  have HBB := Aside0.mk (below_alloc (Below.refl w.heap.size w) (.cells (.int .i64 c :: nums .i64 [r0, r1, r2, r3, r4, r5, r6, r7]).toArray 55))
  have HBX := Aside0.mk (blk_new w (.cells (.int .i64 c :: nums .i64 [r0, r1, r2, r3, r4, r5, r6, r7]).toArray 55))
  unfold shapeV
  simp only [nums, List.map]
  have hu55 := Try.underlying55
  go_enter Try.func40, Try.ntmps40
  have HI := Aside0.mk (fun (W : World) (hW : W.heap[w.heap.size]? = some (.cells (.int .i64 c :: nums .i64 [r0, r1, r2, r3, r4, r5, r6, r7]).toArray 55 (0, 0))) (j : Nat) (hj : j < 8) => (show W.cell? ⟨w.heap.size, 1 + j, none⟩ = some (.int .i64 ([r0, r1, r2, r3, r4, r5, r6, r7].getD j 0)) from by rw [blk_cell hW, Nat.add_comm]; exact cons_at (by exact hj)))
  rcases (show (0 ≤ c ∧ c < 16) ∨ (c < 0) ∨ (16 ≤ c) by omega) with ⟨h0, h15⟩ | h0 | h0
  · have hk : 0 ≤ c ∧ c ≤ 15 := by omega
    have HKC := Aside0.mk hk
    clear hk
    go_wp2
    change Code.wp _ _ _ _ (w.alloc (.cells (.int .i64 c :: nums .i64 [r0, r1, r2, r3, r4, r5, r6, r7]).toArray 55))
    generalize w.alloc (.cells (.int .i64 c :: nums .i64 [r0, r1, r2, r3, r4, r5, r6, r7]).toArray 55) = w2 at HBB HBX ⊢
    go_loopg [3, 4, 13, 14, 15, 16, 17, 18, 19, 20, 21, 22, 23, 24, 25, 26, 27, 28, 29, 30, 31] 8 (fun kq v3 v4 v13 v14 v15 v16 v17 v18 v19 v20 v21 v22 v23 v24 v25 v26 v27 v28 v29 v30 v31 wx => ∃ (i : Nat) (b : Bool), v4 = .int .i64 (i : Int) ∧ v3 = .bool b ∧ Aside0 (kq + i = 8) ∧ Aside0 (b = true ↔ restUpto [r0, r1, r2, r3, r4, r5, r6, r7] i) ∧ Aside0 (wx.heap[w.heap.size]? = some (.cells (.int .i64 c :: nums .i64 [r0, r1, r2, r3, r4, r5, r6, r7]).toArray 55 (0, 0))) ∧ Aside0 (Below w.heap.size w wx))
    case atStart => exact ⟨0, true, rfl, rfl, ⟨rfl⟩, ⟨⟨fun _ j hj => by omega, fun _ => rfl⟩⟩, ⟨HBX.out⟩, ⟨HBB.out⟩⟩
    case round =>
      clear HBB HBX
      obtain ⟨i, b, rfl, rfl, HG, HR, HX, HB⟩ := hrel
      by_cases hi : i < 8
      · have hi0 : (0 : Int) ≤ i := by omega
        have hi8 : (i : Int) < 8 := by omega
        have hx := HI.out _ HX.out i hi
        have hsu := restUpto_succ (r := [r0, r1, r2, r3, r4, r5, r6, r7]) (k := i)
        generalize [r0, r1, r2, r3, r4, r5, r6, r7].getD i 0 = x at hx hsu
        have HSU := Aside0.mk hsu
        clear hsu
        obtain ⟨g0, rfl⟩ : ∃ g0, gk = g0 + 1 := ⟨gk - 1, by have := HG.out; omega⟩
        cases b with
        | false =>
          have HRN := Aside0.mk (show ¬ restUpto [r0, r1, r2, r3, r4, r5, r6, r7] i from fun h => by have := HR.out.2 h; cases this)
          clear HR
          go_wp2
          go_roundg g0
          case measure => omega
          case rel => exact ⟨i + 1, false, by first | rfl | (congr 1; push_cast; rfl), rfl, ⟨by have := HG.out; omega⟩, ⟨⟨fun h => (by cases h), fun h => absurd (HSU.out.1 h).1 HRN.out⟩⟩, HX, HB⟩
        | true =>
          have HRT := Aside0.mk (HR.out.1 rfl)
          clear HR
          by_cases h5 : x > -5
          · by_cases h4 : x < 4
            · go_wp2
              go_roundg g0
              case measure => omega
              case rel => exact ⟨i + 1, true, by first | rfl | (congr 1; push_cast; rfl), rfl, ⟨by have := HG.out; omega⟩, ⟨⟨fun _ => HSU.out.2 ⟨HRT.out, by omega⟩, fun _ => rfl⟩⟩, HX, HB⟩
            · go_wp2
              go_roundg g0
              case measure => omega
              case rel => exact ⟨i + 1, false, by first | rfl | (congr 1; push_cast; rfl), rfl, ⟨by have := HG.out; omega⟩, ⟨⟨fun h => (by cases h), fun h => by have := (HSU.out.1 h).2; omega⟩⟩, HX, HB⟩
          · go_wp2
            go_roundg g0
            case measure => omega
            case rel => exact ⟨i + 1, false, by first | rfl | (congr 1; push_cast; rfl), rfl, ⟨by have := HG.out; omega⟩, ⟨⟨fun h => (by cases h), fun h => by have := (HSU.out.1 h).2; omega⟩⟩, HX, HB⟩
      · obtain rfl : i = 8 := by have := HG.out; omega
        go_wp2
        exact bodyPost_ret (v := .bool b) (by simp [results, Try.results40, go_sem]) rfl ⟨b, rfl, ⟨fun h => ⟨HKC.out, HR.out.1 h⟩, fun h => HR.out.2 h.2⟩, HB.out⟩
  · have HKC := Aside0.mk (show ¬ okShape c [r0, r1, r2, r3, r4, r5, r6, r7] from fun h => by have := h.1; omega)
    go_wp2
    change Code.wp _ _ _ _ (w.alloc (.cells (.int .i64 c :: nums .i64 [r0, r1, r2, r3, r4, r5, r6, r7]).toArray 55))
    generalize w.alloc (.cells (.int .i64 c :: nums .i64 [r0, r1, r2, r3, r4, r5, r6, r7]).toArray 55) = w2 at HBB HBX ⊢
    go_loopg [3, 4, 13, 14, 15, 16, 17, 18, 19, 20, 21, 22, 23, 24, 25, 26, 27, 28, 29, 30, 31] 8 (fun kq v3 v4 v13 v14 v15 v16 v17 v18 v19 v20 v21 v22 v23 v24 v25 v26 v27 v28 v29 v30 v31 wx => ∃ (i : Nat), v4 = .int .i64 (i : Int) ∧ v3 = .bool false ∧ Aside0 (kq + i = 8) ∧ Aside0 (Below w.heap.size w wx))
    case atStart => exact ⟨0, rfl, rfl, ⟨rfl⟩, ⟨HBB.out⟩⟩
    case round =>
      clear HBB HBX
      obtain ⟨i, rfl, rfl, HG, HB⟩ := hrel
      by_cases hi : i < 8
      · have hi0 : (0 : Int) ≤ i := by omega
        have hi8 : (i : Int) < 8 := by omega
        obtain ⟨g0, rfl⟩ : ∃ g0, gk = g0 + 1 := ⟨gk - 1, by have := HG.out; omega⟩
        go_wp2
        go_roundg g0
        case measure => omega
        case rel => exact ⟨i + 1, by first | rfl | (congr 1; push_cast; rfl), rfl, ⟨by have := HG.out; omega⟩, HB⟩
      · obtain rfl : i = 8 := by have := HG.out; omega
        go_wp2
        exact bodyPost_ret (v := .bool false) (by simp [results, Try.results40, go_sem]) rfl ⟨false, rfl, ⟨fun h => (by cases h), fun h => absurd h HKC.out⟩, HB.out⟩
  · have HKC := Aside0.mk (show ¬ okShape c [r0, r1, r2, r3, r4, r5, r6, r7] from fun h => by have := h.1; omega)
    have h00 : 0 ≤ c := by omega
    have h01 : decide (c < 16) = false := decide_eq_false (by omega)
    go_wp2
    change Code.wp _ _ _ _ (w.alloc (.cells (.int .i64 c :: nums .i64 [r0, r1, r2, r3, r4, r5, r6, r7]).toArray 55))
    generalize w.alloc (.cells (.int .i64 c :: nums .i64 [r0, r1, r2, r3, r4, r5, r6, r7]).toArray 55) = w2 at HBB HBX ⊢
    go_loopg [3, 4, 13, 14, 15, 16, 17, 18, 19, 20, 21, 22, 23, 24, 25, 26, 27, 28, 29, 30, 31] 8 (fun kq v3 v4 v13 v14 v15 v16 v17 v18 v19 v20 v21 v22 v23 v24 v25 v26 v27 v28 v29 v30 v31 wx => ∃ (i : Nat), v4 = .int .i64 (i : Int) ∧ v3 = .bool false ∧ Aside0 (kq + i = 8) ∧ Aside0 (Below w.heap.size w wx))
    case atStart => exact ⟨0, rfl, rfl, ⟨rfl⟩, ⟨HBB.out⟩⟩
    case round =>
      clear HBB HBX
      obtain ⟨i, rfl, rfl, HG, HB⟩ := hrel
      by_cases hi : i < 8
      · have hi0 : (0 : Int) ≤ i := by omega
        have hi8 : (i : Int) < 8 := by omega
        obtain ⟨g0, rfl⟩ : ∃ g0, gk = g0 + 1 := ⟨gk - 1, by have := HG.out; omega⟩
        go_wp2
        go_roundg g0
        case measure => omega
        case rel => exact ⟨i + 1, by first | rfl | (congr 1; push_cast; rfl), rfl, ⟨by have := HG.out; omega⟩, HB⟩
      · obtain rfl : i = 8 := by have := HG.out; omega
        go_wp2
        exact bodyPost_ret (v := .bool false) (by simp [results, Try.results40, go_sem]) rfl ⟨false, rfl, ⟨fun h => (by cases h), fun h => absurd h HKC.out⟩, HB.out⟩
theorem ref_Book_eq (c : Int) (h0 : 0 ≤ c) (h1 : c ≤ 15) : psalteryref16_Book.f c = some (rowOf c.toNat) := by
  have at0 : psalteryref16_Book.f 0 = some (rowOf 0) := by decide +kernel
  have at1 : psalteryref16_Book.f 1 = some (rowOf 1) := by decide +kernel
  have at2 : psalteryref16_Book.f 2 = some (rowOf 2) := by decide +kernel
  have at3 : psalteryref16_Book.f 3 = some (rowOf 3) := by decide +kernel
  have at4 : psalteryref16_Book.f 4 = some (rowOf 4) := by decide +kernel
  have at5 : psalteryref16_Book.f 5 = some (rowOf 5) := by decide +kernel
  have at6 : psalteryref16_Book.f 6 = some (rowOf 6) := by decide +kernel
  have at7 : psalteryref16_Book.f 7 = some (rowOf 7) := by decide +kernel
  have at8 : psalteryref16_Book.f 8 = some (rowOf 8) := by decide +kernel
  have at9 : psalteryref16_Book.f 9 = some (rowOf 9) := by decide +kernel
  have at10 : psalteryref16_Book.f 10 = some (rowOf 10) := by decide +kernel
  have at11 : psalteryref16_Book.f 11 = some (rowOf 11) := by decide +kernel
  have at12 : psalteryref16_Book.f 12 = some (rowOf 12) := by decide +kernel
  have at13 : psalteryref16_Book.f 13 = some (rowOf 13) := by decide +kernel
  have at14 : psalteryref16_Book.f 14 = some (rowOf 14) := by decide +kernel
  have at15 : psalteryref16_Book.f 15 = some (rowOf 15) := by decide +kernel
  have h : c = 0 ∨ c = 1 ∨ c = 2 ∨ c = 3 ∨ c = 4 ∨ c = 5 ∨ c = 6 ∨ c = 7 ∨ c = 8 ∨ c = 9 ∨ c = 10 ∨ c = 11 ∨ c = 12 ∨ c = 13 ∨ c = 14 ∨ c = 15 := by omega
  rcases h with rfl | rfl | rfl | rfl | rfl | rfl | rfl | rfl | rfl | rfl | rfl | rfl | rfl | rfl | rfl | rfl
  · exact at0
  · exact at1
  · exact at2
  · exact at3
  · exact at4
  · exact at5
  · exact at6
  · exact at7
  · exact at8
  · exact at9
  · exact at10
  · exact at11
  · exact at12
  · exact at13
  · exact at14
  · exact at15
theorem ref_Book.row (c : Int) (h0 : 0 ≤ c) (h1 : c ≤ 15) (w : World) : Calls Try.prog 65 #[.int .i64 c] w fun e w' => ∃ A cap, e = .returned (.slice A 8 cap) ∧ Kd.C (Kd.int .i64) w' A 8 (rowOf c.toNat) ∧ 8 ≤ cap ∧ Below w.heap.size w w' := by
  refine (psalteryref16_Book.calls c (rowOf c.toNat) w (ref_Book_eq c h0 h1)).mono ?_
  rintro e w' ⟨v, rfl, hv, hb⟩
  obtain ⟨A, cap, rfl⟩ := Kd.V_slice hv
  obtain ⟨_, h2, h3⟩ := Kd.V_reads' hv
  rw [(rowOf_small c.toNat (by omega)).1] at h2 h3 ⊢
  exact ⟨A, cap, rfl, h3, h2, hb⟩
end Go.Proofs.Ytblehkoonajofaa.PShape
