/- Shape: where the lines are no block. -/
import Derived.Test.YtblehkoonajofaaShapeFind
namespace Go.Proofs.Ytblehkoonajofaa.PShape
open Go.RowKit Go.Proofs.YtblehkoonajofaaW.PrintWords Go.Proofs.YtblehkoonajofaaW.PrintLast Go.Proofs.YtblehkoonajofaaW.PrintMore
attribute [local go_sem] max2_int min2_int max_two min_two max_three min_three max_four min_four   -- for this text's walks alone
set_option linter.unusedVariables false
set_option linter.unusedSimpArgs false
set_option maxRecDepth 100000 in
theorem shape_loud.no (k : Nat) (A0 : Option Addr) (c0 : Nat) (x l : List Int) (w : World) (hr0 : Kd.C (Kd.int .i32) w A0 x.length x) (hc0 : x.length ≤ c0)
    (hl : band_Energies.f k x = some (l, 1)) :
    Calls Try.prog 57 #[.slice A0 x.length c0] w fun e w' => e = .returned (.tuple #[arrI z8, .int .i64 1]) ∧ Below w.heap.size w w' := by
  have HC0 := Aside0.mk hc0; have HL := Aside0.mk hl
  have HBB := Aside0.mk (below_alloc (below_alloc (Below.refl w.heap.size w) (.cells (nums .i64 (List.replicate 8 0)).toArray 49)) (.cells (nums .i64 (List.replicate 8 0)).toArray 49))
  have HBX := Aside0.mk (two_new w (.cells (nums .i64 (List.replicate 8 0)).toArray 49) (.cells (nums .i64 (List.replicate 8 0)).toArray 49))
  have HRA := Aside0.mk (Kd.C_below hr0 (below_alloc (below_alloc (Below.refl w.heap.size w) (.cells (nums .i64 (List.replicate 8 0)).toArray 49)) (.cells (nums .i64 (List.replicate 8 0)).toArray 49)))
  clear hr0 hc0 hl
  have hz : ∀ W : World, W.heap[w.heap.size + 1]? = some (.cells (nums .i64 (List.replicate 8 0)).toArray 49 (0, 0)) → ∀ j v, (#[Value.int .i64 0, .int .i64 0, .int .i64 0, .int .i64 0, .int .i64 0, .int .i64 0, .int .i64 0, .int .i64 0] : Array Value)[j]? = some v → W.cell? ⟨w.heap.size + 1, j, none⟩ = some v := fun W hW j v hj => (blk_cell hW j).trans hj
  have HZ := Aside0.mk hz
  clear hz
  go_enter Try.func57, Try.ntmps57
  go_wp2_with (first | (go_at_call 88; refine (band_Energies.calls k A0 c0 x l 1 _ HRA.out HC0.out HL.out).mono ?_; rintro e w1 ⟨v1_, rfl, g1, g2⟩; have HB1 := Aside0.mk (below_step HBB.out g2); have HX0 := Aside0.mk (box_later HBX.out.1 g2); have hx1 := box_later HBX.out.2 g2; have x0 := HZ.out _ hx1 0 _ rfl; have x1 := HZ.out _ hx1 1 _ rfl; have x2 := HZ.out _ hx1 2 _ rfl; have x3 := HZ.out _ hx1 3 _ rfl; have x4 := HZ.out _ hx1 4 _ rfl; have x5 := HZ.out _ hx1 5 _ rfl; have x6 := HZ.out _ hx1 6 _ rfl; have x7 := HZ.out _ hx1 7 _ rfl; clear g1 g2 hx1) | (refine wpList_store_row rfl 49 _ _ rfl w.heap.size #[.int .i64 0, .int .i64 0, .int .i64 0, .int .i64 0, .int .i64 0, .int .i64 0, .int .i64 0, .int .i64 0] rfl rfl 49 (nums .i64 (List.replicate 8 0)).toArray HX0.out (by kernel_rfl) (by kernel_rfl) (by kernel_rfl) ?_))
  have hz := setRow_heap w1 w.heap.size (nums .i64 (List.replicate 8 0)).toArray #[.int .i64 0, .int .i64 0, .int .i64 0, .int .i64 0, .int .i64 0, .int .i64 0, .int .i64 0, .int .i64 0] 49 (0, 0) HX0.out
  have HBZ := Aside0.mk (below_setRow HB1.out (Nat.le_refl _) #[.int .i64 0, .int .i64 0, .int .i64 0, .int .i64 0, .int .i64 0, .int .i64 0, .int .i64 0, .int .i64 0])
  generalize w1.setRow w.heap.size #[.int .i64 0, .int .i64 0, .int .i64 0, .int .i64 0, .int .i64 0, .int .i64 0, .int .i64 0, .int .i64 0] = wz at hz HBZ ⊢
  have c0_ := fun j v (hj : (#[Value.int .i64 0, .int .i64 0, .int .i64 0, .int .i64 0, .int .i64 0, .int .i64 0, .int .i64 0, .int .i64 0] : Array Value)[j]? = some v) => (blk_cell hz j).trans hj
  have z0 := c0_ 0 _ rfl; have z1 := c0_ 1 _ rfl; have z2 := c0_ 2 _ rfl; have z3 := c0_ 3 _ rfl; have z4 := c0_ 4 _ rfl; have z5 := c0_ 5 _ rfl; have z6 := c0_ 6 _ rfl; have z7 := c0_ 7 _ rfl
  clear c0_ hz
  exact bodyPost_ret (v := .tuple #[.agg #[.int .i64 0, .int .i64 0, .int .i64 0, .int .i64 0, .int .i64 0, .int .i64 0, .int .i64 0, .int .i64 0], .int .i64 1]) (by simp [results, Try.results57, go_sem, z0, z1, z2, z3, z4, z5, z6, z7]) rfl ⟨rfl, HBZ.out⟩
set_option maxRecDepth 100000 in
theorem shape_Find.no (k : Nat) (A0 : Option Addr) (c0 : Nat) (x l : List Int) (w : World) (hr0 : Kd.C (Kd.int .i32) w A0 x.length x) (hc0 : x.length ≤ c0)
    (hl : band_Energies.f k x = some (l, 1)) :
    Calls Try.prog 25 #[.slice A0 x.length c0] w fun e w' => e = .returned (.tuple #[shapeV 0 z8, .int .i64 1]) ∧ Below w.heap.size w w' := by
  have HL := Aside0.mk (fun W (g1 : Kd.C (Kd.int .i32) W A0 x.length x) => shape_loud.no k A0 c0 x l W g1 hc0 hl)
  have HBB := Aside0.mk (below_alloc (Below.refl w.heap.size w) (.cells (.int .i64 0 :: nums .i64 z8).toArray 51))
  have HBX := Aside0.mk (blk_new w (.cells (.int .i64 0 :: nums .i64 z8).toArray 51))
  have HRA := Aside0.mk (Kd.C_below hr0 (below_alloc (Below.refl w.heap.size w) (.cells (.int .i64 0 :: nums .i64 z8).toArray 51)))
  clear hr0 hc0 hl
  go_enter Try.func25, Try.ntmps25
  go_wp2_with (first | (go_at_call 57; refine (HL.out _ HRA.out).mono ?_; rintro e w1 ⟨rfl, hb1_⟩; have HB1 := Aside0.mk (below_step HBB.out hb1_); have HX1 := Aside0.mk (box_later HBX.out hb1_); clear hb1_) | (refine wpList_store_row rfl 49 _ _ rfl w1.heap.size (nums .i64 z8).toArray rfl rfl 49 (nums .i64 (List.replicate 8 0)).toArray (blk_new w1 _) (by kernel_rfl) (by kernel_rfl) (by kernel_rfl) ?_) | (refine wpList_build_to rfl 51 _ rfl (.int .i64 0 :: nums .i64 z8).toArray (by kernel_rfl) ?_) | (refine wpList_store_row rfl 51 _ _ rfl w.heap.size (.int .i64 0 :: nums .i64 z8).toArray rfl rfl 51 (.int .i64 0 :: nums .i64 z8).toArray ((setRow_other _ _ _ _ (by have := blk_lt HX1.out; omega)).trans (box_later HX1.out (below_alloc (Below.refl _ _) _))) (by kernel_rfl) (by kernel_rfl) (by kernel_rfl) ?_))
  have hz := setRow_heap ((w1.alloc (.cells (nums .i64 (List.replicate 8 0)).toArray 49)).setRow w1.heap.size (nums .i64 z8).toArray) w.heap.size (.int .i64 0 :: nums .i64 z8).toArray (.int .i64 0 :: nums .i64 z8).toArray 51 (0, 0) ((setRow_other _ _ _ _ (by have := blk_lt HX1.out; omega)).trans (box_later HX1.out (below_alloc (Below.refl _ _) _)))
  have HBZ := Aside0.mk (below_setRow (below_setRow (below_alloc HB1.out (.cells (nums .i64 (List.replicate 8 0)).toArray 49)) (below_size HB1.out) (nums .i64 z8).toArray) (Nat.le_refl _) (.int .i64 0 :: nums .i64 z8).toArray)
  change bodyPost _ _ _ _ _ (((w1.alloc (.cells (nums .i64 (List.replicate 8 0)).toArray 49)).setRow w1.heap.size (nums .i64 z8).toArray).setRow w.heap.size (.int .i64 0 :: nums .i64 z8).toArray)
  generalize ((w1.alloc (.cells (nums .i64 (List.replicate 8 0)).toArray 49)).setRow w1.heap.size (nums .i64 z8).toArray).setRow w.heap.size (.int .i64 0 :: nums .i64 z8).toArray = wz at hz HBZ ⊢
  have c0_ := fun j v (hj : ((Value.int .i64 0 :: nums .i64 z8).toArray : Array Value)[j]? = some v) => (blk_cell hz j).trans hj
  have z0 := c0_ 0 _ rfl; have z1 := c0_ 1 _ rfl; have z2 := c0_ 2 _ rfl; have z3 := c0_ 3 _ rfl; have z4 := c0_ 4 _ rfl; have z5 := c0_ 5 _ rfl; have z6 := c0_ 6 _ rfl; have z7 := c0_ 7 _ rfl; have z8_ := c0_ 8 _ rfl
  clear c0_ hz
  exact bodyPost_ret (v := .tuple #[.agg #[.int .i64 0, .int .i64 0, .int .i64 0, .int .i64 0, .int .i64 0, .int .i64 0, .int .i64 0, .int .i64 0, .int .i64 0], .int .i64 1]) (by simp [results, Try.results25, go_sem, z0, z1, z2, z3, z4, z5, z6, z7, z8_, nums, z8]) rfl ⟨rfl, HBZ.out⟩
end Go.Proofs.Ytblehkoonajofaa.PShape
