/- Shape: the law's example. -/
import Derived.Test.YtblehkoonajofaaShapeNums
import Derived.Test.YtblehkoonajofaaShapeNo
import Derived.Test.YtblehkoonajofaaFixBaseShape
import Derived.ChangeKeysEq
namespace Go.Proofs.Ytblehkoonajofaa.PShape
open Go.RowKit Go.Proofs.YtblehkoonajofaaW.PrintWords Go.Proofs.YtblehkoonajofaaW.PrintLast Go.Proofs.YtblehkoonajofaaW.PrintMore Go.Proofs.Ytblehkoonajofaa.ShapeBand
set_option linter.unusedVariables false
set_option linter.unusedSimpArgs false
theorem arr_same (a0 a1 a2 a3 a4 a5 a6 a7 : Int) (W : World) : Sem.run Try.prog (Op.equalIn 9999 49 (.agg #[.int .i64 a0, .int .i64 a1, .int .i64 a2, .int .i64 a3, .int .i64 a4, .int .i64 a5, .int .i64 a6, .int .i64 a7]) (.agg #[.int .i64 a0, .int .i64 a1, .int .i64 a2, .int .i64 a3, .int .i64 a4, .int .i64 a5, .int .i64 a6, .int .i64 a7])) W = .ok true W := by
  obtain ⟨i3, hi3, _⟩ := Option.map_eq_some_iff.1 info3
  have hu : Try.prog.underlying 49 = some (.array 8 3) := by kernel_rfl
  have hc : Try.prog.cellsOf 3 = 1 := by kernel_rfl
  rw [Go.run_equalIn_array W 9998 _ _ hu hi3, hc]
  have h3 : Try.prog.underlying 3 = some (.int .i64) := by kernel_rfl
  simp only [List.range, List.range.loop, Op.eqItems, Sem.run_bind]
  simp [go_sem, h3]
theorem find_any (x : List Int) (hx : Lines x) (hl : x.length ≤ 300) (he : edE x ≠ []) (A0 : Option Addr) (c0 : Nat) (w : World) (hr0 : Kd.C (Kd.int .i32) w A0 x.length x) (hc0 : x.length ≤ c0) :
    Calls Try.prog 25 #[.slice A0 x.length c0] w fun e w' => e = .returned (.tuple #[shapeV (bestUpto (dD x) 16) (restL (dD x) (bestUpto (dD x) 16)), .int .i64 0]) ∧ Below w.heap.size w w' :=
  shape_Find.calls 1000 A0 c0 x (enE x) (edE x) (qE x) (hE x) (dD x) w hr0 hc0 (Energies_of x hx hl he) (Edges_of x he) (lfacts x hx he) rfl (small_dD x hx he)
theorem x39_lines : Lines (x40.take 39) := by unfold Lines; decide
theorem x39_no : edE (x40.take 39) = [] := by decide +kernel
set_option maxRecDepth 100000 in
theorem law_alive.calls (w : World) : Calls Try.prog 24 #[] w fun e w' => e = .returned (.bool true) ∧ Below w.heap.size w w' := by
  have hmo : ∀ W : World, (Instr.makeSlice 41 (.int .i64 40) (.int .i64 40)).run Try.prog W = .ok (.slice (some ⟨W.heap.size, 0, none⟩) 40 40) (W.alloc (.cells (madeCells #[.int .i32 0] 40) 21)) := print_make 41 21 .i32 4 Try.underlying41 info_i32 (by decide) 40 (by omega)
  go_enter Try.func24, Try.ntmps24
  go_wp2
  have HB2 := Aside0.mk (below_alloc (Below.refl w.heap.size w) (.cells (madeCells #[.int .i32 0] 40) 21))
  have HO2 := Aside0.mk (blk_new w (.cells (madeCells #[.int .i32 0] 40) 21))
  generalize w.alloc (.cells (madeCells #[.int .i32 0] 40) 21) = w2 at HB2 HO2 ⊢
  clear hmo
  have HX8 := Aside0.mk (show x40.length = 40 from rfl)
  obtain ⟨O, hO⟩ : ∃ O, O = x40 := ⟨_, rfl⟩
  have HOE := Aside0.mk hO
  rw [← hO] at HX8
  have HAT := Aside0.mk (show ∀ i, i < 40 → O.getD i 0 = 8 from by rw [hO]; decide)
  clear hO
  go_loopg [2, 8, 9, 10, 11, 12, 13, 14] 40 (fun kq v2 v8 v9 v10 v11 v12 v13 v14 wx => ∃ i : Nat, v2 = .int .i64 (i : Int) ∧ Aside0 (kq + i = 40) ∧ Aside0 (wx.heap[w.heap.size]? = some (.cells (nums .i32 (O.take i ++ List.replicate (40 - i) 0)).toArray 21 (0, 0))) ∧ Aside0 (Below w.heap.size w wx))
  case atStart => exact ⟨0, rfl, ⟨rfl⟩, ⟨by rw [HO2.out, made_nums]; rfl⟩, HB2⟩
  case round =>
    clear HB2 HO2
    obtain ⟨i, rfl, HG, HO, HB⟩ := hrel
    by_cases hi : i < 40
    · have hi0 : (0 : Int) ≤ i := by omega
      have hi8 : (i : Int) < 40 := by omega
      have hoc := nums_at HO.out (i := i) (by rw [List.length_append, List.length_take, List.length_replicate, HX8.out]; omega)
      have hof : wr.frozen? ⟨w.heap.size, i, none⟩ = false := blk_frozen HO.out i
      have HII := Aside0.mk hi
      have HVI := Aside0.mk (HAT.out i hi)
      go_wp2
      obtain ⟨g0, rfl⟩ : ∃ g0, gk = g0 + 1 := ⟨gk - 1, by have := HG.out; omega⟩
      go_roundg g0
      case measure => omega
      case rel => exact ⟨i + 1, by first | rfl | (congr 1; push_cast; rfl), ⟨by have := HG.out; omega⟩, ⟨by rw [blk_store HO.out i, ← HVI.out, set_next HII.out HX8.out]⟩, ⟨below_set HB.out (Nat.le_refl _)⟩⟩
    · obtain rfl : i = 40 := by have := HG.out; omega
      have hw := HO.out
      rw [Nat.sub_self, List.replicate_zero, List.append_nil, List.take_of_length_le (by rw [HX8.out]; exact Nat.le_refl _)] at hw
      have hC : Kd.C (Kd.int .i32) wr (some ⟨w.heap.size, 0, none⟩) O.length O := own_C (own_of_blk (base := w.heap.size) (Nat.le_refl _) hw rfl (by rw [HX8.out]; unfold maxLen; omega))
      have HC := Aside0.mk hC
      have HF := Aside0.mk (fun W (hb : Below wr.heap.size wr W) => (find_any O (by rw [HOE.out]; exact x40_lines) (by rw [HX8.out]; decide) (by rw [HOE.out]; exact x40_shape.2.2) (some ⟨w.heap.size, 0, none⟩) 40 W (Kd.C_below HC.out hb) (by rw [HX8.out]; decide)))
      have HN := Aside0.mk (fun W (hb : Below wr.heap.size wr W) => (shape_Find.no 1000 (some ⟨w.heap.size, 0, none⟩) 40 (O.take 39) [] W (Kd.C_take (Kd.C_below HC.out hb) (by rw [HX8.out]; decide)) (by rw [HOE.out]; decide) (Energies_no _ (by rw [HOE.out]; exact x39_lines) (by rw [HOE.out]; exact x39_no))))
      have hsh : bestUpto (dD O) 16 = 0 ∧ restL (dD O) 0 = z8 := by rw [HOE.out]; exact ⟨x40_shape.1, x40_shape.2.1⟩
      rw [hsh.1] at HF
      rw [hsh.2, HX8.out] at HF
      rw [show (O.take 39).length = 39 from by rw [List.length_take, HX8.out]; decide] at HN
      clear hw hC HC hi HAT hsh
      have hsv : shapeV ((0 : Nat) : Int) z8 = shapeV 0 z8 := rfl
      rw [hsv] at HF
      clear hsv
      unfold shapeV at HF HN
      simp only [nums, z8, List.map] at HF HN
      have heq := arr_same 0 0 0 0 0 0 0 0
      go_wp2_with (first | (go_at_call 25; refine (HN.out _ HBr4.out).mono ?_; rintro e w5 ⟨rfl, hb_⟩; have HBr5 := Aside0.mk (below_step HBr4.out hb_); have HK5 := Aside0.mk (box_later HK4.out hb_); clear hb_) | (go_at_call 25; refine (HF.out _ (Below.refl _ _)).mono ?_; rintro e w3 ⟨rfl, hb_⟩; have HBr := Aside0.mk hb_; clear hb_) | (refine wpList_store_row rfl 51 _ _ rfl w5.heap.size #[.int .i64 0, .int .i64 0, .int .i64 0, .int .i64 0, .int .i64 0, .int .i64 0, .int .i64 0, .int .i64 0, .int .i64 0] rfl rfl 51 #[.int .i64 0, .int .i64 0, .int .i64 0, .int .i64 0, .int .i64 0, .int .i64 0, .int .i64 0, .int .i64 0, .int .i64 0] (blk_new w5 _) (by kernel_rfl) (by kernel_rfl) (by kernel_rfl) ?_; have HBs := Aside0.mk (below_setRow (below_alloc (Below.refl w5.heap.size w5) (.cells #[.int .i64 0, .int .i64 0, .int .i64 0, .int .i64 0, .int .i64 0, .int .i64 0, .int .i64 0, .int .i64 0, .int .i64 0] 51)) (Nat.le_refl _) #[.int .i64 0, .int .i64 0, .int .i64 0, .int .i64 0, .int .i64 0, .int .i64 0, .int .i64 0, .int .i64 0, .int .i64 0]); have HK6 := Aside0.mk (box_later HK5.out HBs.out); have HBr6 := Aside0.mk (below_step HBr5.out HBs.out); generalize (w5.alloc (.cells #[.int .i64 0, .int .i64 0, .int .i64 0, .int .i64 0, .int .i64 0, .int .i64 0, .int .i64 0, .int .i64 0, .int .i64 0] 51)).setRow w5.heap.size #[.int .i64 0, .int .i64 0, .int .i64 0, .int .i64 0, .int .i64 0, .int .i64 0, .int .i64 0, .int .i64 0, .int .i64 0] = w6 at HBs HK6 HBr6 ⊢; have x0 := (blk_cell HK6.out 0).trans rfl; have x1 := (blk_cell HK6.out 1).trans rfl; have x2 := (blk_cell HK6.out 2).trans rfl; have x3 := (blk_cell HK6.out 3).trans rfl; have x4 := (blk_cell HK6.out 4).trans rfl; have x5 := (blk_cell HK6.out 5).trans rfl; have x6 := (blk_cell HK6.out 6).trans rfl; have x7 := (blk_cell HK6.out 7).trans rfl; have x8 := (blk_cell HK6.out 8).trans rfl) | (refine wpList_store_row rfl 51 _ _ rfl w3.heap.size #[.int .i64 0, .int .i64 0, .int .i64 0, .int .i64 0, .int .i64 0, .int .i64 0, .int .i64 0, .int .i64 0, .int .i64 0] rfl rfl 51 #[.int .i64 0, .int .i64 0, .int .i64 0, .int .i64 0, .int .i64 0, .int .i64 0, .int .i64 0, .int .i64 0, .int .i64 0] (blk_new w3 _) (by kernel_rfl) (by kernel_rfl) (by kernel_rfl) ?_; have HK4 := Aside0.mk (setRow_heap (w3.alloc (.cells #[.int .i64 0, .int .i64 0, .int .i64 0, .int .i64 0, .int .i64 0, .int .i64 0, .int .i64 0, .int .i64 0, .int .i64 0] 51)) w3.heap.size _ #[.int .i64 0, .int .i64 0, .int .i64 0, .int .i64 0, .int .i64 0, .int .i64 0, .int .i64 0, .int .i64 0, .int .i64 0] 51 (0, 0) (blk_new w3 _)); have HBr4 := Aside0.mk (below_setRow (below_alloc HBr.out (.cells #[.int .i64 0, .int .i64 0, .int .i64 0, .int .i64 0, .int .i64 0, .int .i64 0, .int .i64 0, .int .i64 0, .int .i64 0] 51)) (below_size HBr.out) #[.int .i64 0, .int .i64 0, .int .i64 0, .int .i64 0, .int .i64 0, .int .i64 0, .int .i64 0, .int .i64 0, .int .i64 0]); generalize (w3.alloc (.cells #[.int .i64 0, .int .i64 0, .int .i64 0, .int .i64 0, .int .i64 0, .int .i64 0, .int .i64 0, .int .i64 0, .int .i64 0] 51)).setRow w3.heap.size #[.int .i64 0, .int .i64 0, .int .i64 0, .int .i64 0, .int .i64 0, .int .i64 0, .int .i64 0, .int .i64 0, .int .i64 0] = w4 at HK4 HBr4 ⊢))
      exact bodyPost_ret (v := .bool true) (by simp [results, Try.results24, go_sem]) rfl ⟨rfl, below_step HB.out HBr6.out⟩
end Go.Proofs.Ytblehkoonajofaa.PShape
