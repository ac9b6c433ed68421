/- Tns: the law TnsFinds. -/
import Derived.Test.YtblehkoonajofaaTnsBackWalk
import Derived.Test.YtblehkoonajofaaTnsRefFind
namespace Go.Proofs.Ytblehkoonajofaa.PTns
open Go.RowKit Go.Proofs.YtblehkoonajofaaW.PrintWords Go.Proofs.YtblehkoonajofaaW.PrintLast Go.Proofs.YtblehkoonajofaaW.PrintMore Go.Proofs.Ytblehkoonajofaa.RowAt
set_option linter.unusedVariables false
set_option linter.unusedSimpArgs false
set_option maxRecDepth 100000 in
theorem tns_Find.long (A : Option Addr) (c : Nat) (x : List Int) (w : World) (hn : 120 < x.length) :
    Calls Try.prog 30 #[.slice A x.length c] w fun e w' => e = .returned (.tuple #[filtV 0 z4, .int .i64 2]) ∧ Below w.heap.size w w' := by
  have q0 : (120 : Int) < (x.length : Int) := by omega
  have HBB := Aside0.mk (below_alloc (Below.refl w.heap.size w) (.cells #[.int .i64 0, .int .i64 0, .int .i64 0, .int .i64 0, .int .i64 0] 60))
  clear hn
  go_enter Try.func30, Try.ntmps30
  go_wp2_with (first | (refine wpList_store_row rfl 60 _ _ rfl w.heap.size #[.int .i64 0, .int .i64 0, .int .i64 0, .int .i64 0, .int .i64 0] rfl rfl 60 #[.int .i64 0, .int .i64 0, .int .i64 0, .int .i64 0, .int .i64 0] (blk_new w _) (by kernel_rfl) (by kernel_rfl) (by kernel_rfl) ?_))
  have hz := setRow_heap (w.alloc (.cells #[.int .i64 0, .int .i64 0, .int .i64 0, .int .i64 0, .int .i64 0] 60)) w.heap.size #[.int .i64 0, .int .i64 0, .int .i64 0, .int .i64 0, .int .i64 0] #[.int .i64 0, .int .i64 0, .int .i64 0, .int .i64 0, .int .i64 0] 60 (0, 0) (blk_new w _)
  have HBZ := Aside0.mk (below_setRow HBB.out (Nat.le_refl _) #[.int .i64 0, .int .i64 0, .int .i64 0, .int .i64 0, .int .i64 0])
  generalize (w.alloc (.cells #[.int .i64 0, .int .i64 0, .int .i64 0, .int .i64 0, .int .i64 0] 60)).setRow w.heap.size #[.int .i64 0, .int .i64 0, .int .i64 0, .int .i64 0, .int .i64 0] = wz at hz HBZ ⊢
  have z0 := (blk_cell hz 0).trans rfl; have z1 := (blk_cell hz 1).trans rfl; have z2 := (blk_cell hz 2).trans rfl; have z3 := (blk_cell hz 3).trans rfl; have z4_ := (blk_cell hz 4).trans rfl
  exact bodyPost_ret (v := .tuple #[.agg #[.int .i64 0, .int .i64 0, .int .i64 0, .int .i64 0, .int .i64 0], .int .i64 2]) (by simp [results, Try.results30, go_sem, z0, z1, z2, z3, z4_]) rfl ⟨rfl, HBZ.out⟩
theorem arr4_same (a0 a1 a2 a3 : Int) (W : World) : Sem.run Try.prog (Op.equalIn 9999 58 (.agg #[.int .i64 a0, .int .i64 a1, .int .i64 a2, .int .i64 a3]) (.agg #[.int .i64 a0, .int .i64 a1, .int .i64 a2, .int .i64 a3])) W = .ok true W := by
  obtain ⟨i3, hi3, _⟩ := Option.map_eq_some_iff.1 info_i64b
  have hu : Try.prog.underlying 58 = some (.array 4 3) := by kernel_rfl
  have hc : Try.prog.cellsOf 3 = 1 := by kernel_rfl
  have h3 : Try.prog.underlying 3 = some (.int .i64) := by kernel_rfl
  rw [Go.run_equalIn_array W 9998 _ _ hu hi3, hc]
  simp only [List.range, List.range.loop, Op.eqItems, Sem.run_bind]
  simp [go_sem, h3]
set_option maxRecDepth 100000 in
set_option maxHeartbeats 4000000 in
theorem law_TFinds.calls (A : Option Addr) (c : Nat) (x : List Int) (w : World) (hr : ReadsInt w .i32 A x.length x) (hx : ∀ i, In32 (x.getD i 0)) :
    Calls Try.prog 8 #[.slice A x.length c] w fun e w' => e = .returned (.bool true) ∧ Below w.heap.size w w' := by
  by_cases hl3 : 300 < x.length
  · have q0 : (300 : Int) < (x.length : Int) := by omega
    clear hr hx hl3
    go_enter Try.func8, Try.ntmps8
    go_wp2_with (first | (go_at_call 29; refine (law17_alive.calls _).mono ?_; rintro e w1 ⟨rfl, hb_⟩; have HB1 := Aside0.mk hb_; clear hb_))
    exact bodyPost_ret (v := .bool true) (by simp [results, Try.results8, go_sem]) rfl ⟨rfl, HB1.out⟩
  · have q3 : ¬ (300 : Int) < (x.length : Int) := by omega
    by_cases hl : 120 < x.length
    · have q0 : (120 : Int) < (x.length : Int) := by omega
      have HFD := Aside0.mk (fun W => tns_Find.long A c x W hl)
      simp only [z4, filtV_eq] at HFD
      have heq := arr4_same 0 0 0 0
      clear hr hx hl hl3
      go_enter Try.func8, Try.ntmps8
      go_wp2_with (first | (go_at_call 29; refine (law17_alive.calls _).mono ?_; rintro e w1 ⟨rfl, hb_⟩; have HB1 := Aside0.mk hb_; clear hb_) | (go_at_call 30; refine (HFD.out _).mono ?_; rintro e w3 ⟨rfl, hb_⟩; have HB3 := Aside0.mk (below_step HB1.out hb_); clear hb_) | (refine wpList_store_row rfl 60 _ _ rfl w3.heap.size #[.int .i64 0, .int .i64 0, .int .i64 0, .int .i64 0, .int .i64 0] rfl rfl 60 #[.int .i64 0, .int .i64 0, .int .i64 0, .int .i64 0, .int .i64 0] (blk_new w3 _) (by kernel_rfl) (by kernel_rfl) (by kernel_rfl) ?_; have hbs := below_setRow (below_alloc (Below.refl w3.heap.size w3) (.cells #[.int .i64 0, .int .i64 0, .int .i64 0, .int .i64 0, .int .i64 0] 60)) (Nat.le_refl _) #[.int .i64 0, .int .i64 0, .int .i64 0, .int .i64 0, .int .i64 0]; have HK4 := Aside0.mk (setRow_heap (w3.alloc (.cells #[.int .i64 0, .int .i64 0, .int .i64 0, .int .i64 0, .int .i64 0] 60)) w3.heap.size _ #[.int .i64 0, .int .i64 0, .int .i64 0, .int .i64 0, .int .i64 0] 60 (0, 0) (blk_new w3 _)); have HB4 := Aside0.mk (below_step HB3.out hbs); clear hbs; generalize (w3.alloc (.cells #[.int .i64 0, .int .i64 0, .int .i64 0, .int .i64 0, .int .i64 0] 60)).setRow w3.heap.size #[.int .i64 0, .int .i64 0, .int .i64 0, .int .i64 0, .int .i64 0] = w4 at HK4 HB4 ⊢; have y0 := (blk_cell HK4.out 0).trans rfl; have y1 := (blk_cell HK4.out 1).trans rfl; have y2 := (blk_cell HK4.out 2).trans rfl; have y3 := (blk_cell HK4.out 3).trans rfl; have y4 := (blk_cell HK4.out 4).trans rfl))
      exact bodyPost_ret (v := .bool true) (by simp [results, Try.results8, go_sem]) rfl ⟨rfl, HB4.out⟩
    · have q0 : ¬ (120 : Int) < (x.length : Int) := by omega
      have HR := Aside0.mk hr
      have HFD := Aside0.mk (fun W (g : ReadsInt W .i32 A x.length x) => tns_Find.calls A c x W g (by omega) hx)
      have HRF := Aside0.mk (fun W (g : ReadsInt W .i32 A x.length x) => ref17_Find.calls A c x W g (by omega) hx)
      have hfo := found_ok (corrL x)
      generalize findOn (corrL x) = o at HFD HRF
      have hf4 := hfo.1
      clear hfo
      generalize findIdx (corrL x) = J at HFD HRF hf4
      obtain ⟨j0, j1, j2, j3, rfl⟩ := four hf4
      simp only [filtV_eq] at HFD HRF
      have heq := arr4_same j0 j1 j2 j3
      clear hr hx hl hf4 hl3
      go_enter Try.func8, Try.ntmps8
      go_wp2_with (first | (go_at_call 29; refine (law17_alive.calls _).mono ?_; rintro e w1 ⟨rfl, hb_⟩; have HB1 := Aside0.mk hb_; clear hb_) | (go_at_call 30; refine (HFD.out _ (reads_below HR.out HB1.out)).mono ?_; rintro e w3 ⟨rfl, hb_⟩; have HB3 := Aside0.mk (below_step HB1.out hb_); clear hb_) | (refine wpList_store_row rfl 60 _ _ rfl w3.heap.size #[.int .i64 o, .int .i64 j0, .int .i64 j1, .int .i64 j2, .int .i64 j3] rfl rfl 60 #[.int .i64 0, .int .i64 0, .int .i64 0, .int .i64 0, .int .i64 0] (blk_new w3 _) (by kernel_rfl) (by kernel_rfl) (by kernel_rfl) ?_; have hbs := below_setRow (below_alloc (Below.refl w3.heap.size w3) (.cells #[.int .i64 0, .int .i64 0, .int .i64 0, .int .i64 0, .int .i64 0] 60)) (Nat.le_refl _) #[.int .i64 o, .int .i64 j0, .int .i64 j1, .int .i64 j2, .int .i64 j3]; have HK4 := Aside0.mk (setRow_heap (w3.alloc (.cells #[.int .i64 0, .int .i64 0, .int .i64 0, .int .i64 0, .int .i64 0] 60)) w3.heap.size _ #[.int .i64 o, .int .i64 j0, .int .i64 j1, .int .i64 j2, .int .i64 j3] 60 (0, 0) (blk_new w3 _)); have HB4 := Aside0.mk (below_step HB3.out hbs); clear hbs; generalize (w3.alloc (.cells #[.int .i64 0, .int .i64 0, .int .i64 0, .int .i64 0, .int .i64 0] 60)).setRow w3.heap.size #[.int .i64 o, .int .i64 j0, .int .i64 j1, .int .i64 j2, .int .i64 j3] = w4 at HK4 HB4 ⊢; have y0 := (blk_cell HK4.out 0).trans rfl; have y1 := (blk_cell HK4.out 1).trans rfl; have y2 := (blk_cell HK4.out 2).trans rfl; have y3 := (blk_cell HK4.out 3).trans rfl; have y4 := (blk_cell HK4.out 4).trans rfl))
      generalize w3.heap.size = b4 at HK4 y0 y1 y2 y3 y4 ⊢
      have HKd := Aside0.mk (box_later HK4.out (below_drew (Below.refl w4.heap.size w4)))
      have HBd := Aside0.mk (below_drew HB4.out)
      have d0 := (blk_cell HKd.out 0).trans rfl; have d1 := (blk_cell HKd.out 1).trans rfl; have d2 := (blk_cell HKd.out 2).trans rfl; have d3 := (blk_cell HKd.out 3).trans rfl; have d4 := (blk_cell HKd.out 4).trans rfl
      go_region_with (first | (go_at_call 31; refine (HRF.out _ (reads_below HR.out HBd.out)).mono ?_; rintro e w6 ⟨rfl, hb_⟩; have HB6 := Aside0.mk (below_step HBd.out hb_); have HK6 := Aside0.mk (box_later HKd.out hb_); have e0 := (blk_cell HK6.out 0).trans rfl; have e1 := (blk_cell HK6.out 1).trans rfl; have e2 := (blk_cell HK6.out 2).trans rfl; have e3 := (blk_cell HK6.out 3).trans rfl; have e4 := (blk_cell HK6.out 4).trans rfl; clear hb_))
      all_goals
        go_wp2
        exact bodyPost_ret (v := .bool true) (by simp [results, Try.results8, go_sem]) rfl ⟨rfl, HB6.out⟩
end Go.Proofs.Ytblehkoonajofaa.PTns
