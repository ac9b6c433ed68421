/- Shape: the reference's Says. -/
import Derived.Test.YtblehkoonajofaaShapeRef
import Derived.Test.YtblehkoonajofaaRowAt
namespace Go.Proofs.Ytblehkoonajofaa.PShape
open Go.RowKit Go.Proofs.YtblehkoonajofaaW.PrintWords Go.Proofs.YtblehkoonajofaaW.PrintLast Go.Proofs.YtblehkoonajofaaW.PrintMore Go.Proofs.Ytblehkoonajofaa.RowAt
attribute [local go_sem] max2_int min2_int max_two min_two max_three min_three max_four min_four   -- for this text's walks alone
set_option linter.unusedVariables false
set_option linter.unusedSimpArgs false
set_option maxRecDepth 100000 in
theorem ref_Says.calls (c : Int) (r : List Int) (hr : r.length = 8) (hk : okShape c r) (b : Nat) (hb : b < 8) (w : World) : Calls Try.prog 41 #[shapeV c r, .int .i64 b] w fun e w' => e = .returned (.int .i32 ((saysL c r).getD b 0)) ∧ Below w.heap.size w w' := by
  have hsa := saysL_at c r hb
  have hyb := hk.2 b hb
  have hxb := (rowOf_small c.toNat (by have := hk.1; omega)).2 b
  have HBK := Aside0.mk (fun W => ref_Book.row c hk.1.1 hk.1.2 W)
  obtain ⟨r0, r1, r2, r3, r4, r5, r6, r7, rfl⟩ := eight hr
  clear hr hk
  have HBB := Aside0.mk (below_alloc (Below.refl w.heap.size w) (.cells (.int .i64 c :: nums .i64 [r0, r1, r2, r3, r4, r5, r6, r7]).toArray 55))
  have hbx := blk_new w (.cells (.int .i64 c :: nums .i64 [r0, r1, r2, r3, r4, r5, r6, r7]).toArray 55)
  have hy : (w.alloc (.cells (.int .i64 c :: nums .i64 [r0, r1, r2, r3, r4, r5, r6, r7]).toArray 55)).cell? ⟨w.heap.size, 1 + b, none⟩ = some (.int .i64 ([r0, r1, r2, r3, r4, r5, r6, r7].getD b 0)) := by rw [blk_cell hbx, Nat.add_comm]; exact cons_at hb
  have hc0 : (w.alloc (.cells (.int .i64 c :: nums .i64 [r0, r1, r2, r3, r4, r5, r6, r7]).toArray 55)).cell? ⟨w.heap.size, 0, none⟩ = some (.int .i64 c) := by rw [blk_cell hbx]; rfl
  have hbi : (0 : Int) ≤ b := by omega
  have hb8 : (b : Int) < 8 := by omega
  generalize hS : (saysL c [r0, r1, r2, r3, r4, r5, r6, r7]).getD b 0 = sv at hsa
  have HS := Aside0.mk hS
  clear hS hbx
  unfold shapeV
  simp only [nums, List.map]
  go_enter Try.func41, Try.ntmps41
  go_wp2
  change Code.wp _ _ _ _ (w.alloc (.cells (.int .i64 c :: nums .i64 [r0, r1, r2, r3, r4, r5, r6, r7]).toArray 55))
  generalize w.alloc (.cells (.int .i64 c :: nums .i64 [r0, r1, r2, r3, r4, r5, r6, r7]).toArray 55) = w2 at HBB hy hc0 ⊢
  generalize [r0, r1, r2, r3, r4, r5, r6, r7].getD b 0 = y at hy hsa hyb
  generalize hX : (rowOf c.toNat).getD b 0 = x at hsa hxb
  have HX := Aside0.mk hX
  have HSA := Aside0.mk hsa
  clear hX hsa
  have hyd : w2.drew.cell? ⟨w.heap.size, 1 + b, none⟩ = some (.int .i64 y) := hy
  have hcd : w2.drew.cell? ⟨w.heap.size, 0, none⟩ = some (.int .i64 c) := hc0
  have HBd := Aside0.mk (below_drew HBB.out)
  go_region_with (first | (go_at_call 65; refine (HBK.out _).mono ?_; rintro e w3 ⟨A, cap, rfl, hC, hcap, hb_⟩; have HB3 := Aside0.mk (below_step HBd.out hb_); have hc3 : w3.cell? ⟨w.heap.size, 0, none⟩ = some (.int .i64 c) := (hb_.cell (World.block_lt_of_cell? _ _ hcd)).trans hcd; have hy3 : w3.cell? ⟨w.heap.size, 1 + b, none⟩ = some (.int .i64 y) := (hb_.cell (World.block_lt_of_cell? _ _ hyd)).trans hyd; obtain ⟨ad, rfl, hcell⟩ := (reads_int hC).2.2 (by omega); have hx3 := hcell b hb; rw [HX.out] at hx3; clear hb_ hC hcell))
  all_goals
    have e1 : IntKind.i64.wrap (y * 128) = 128 * y := by rw [i64_w]; unfold wrap64; omega
    have e2 : IntKind.i64.wrap (x + 128 * y) = x + 128 * y := by rw [i64_w]; unfold wrap64; omega
    have e3 : IntKind.i32.wrap (x + 128 * y) = sv := by rw [HSA.out, i32_w]; unfold wrap32; omega
    rw [e1, e2, e3]
    clear e1 e2 e3
    go_wp2
    exact bodyPost_ret (v := .int .i32 sv) (by simp [results, Try.results41, go_sem]) rfl ⟨rfl, HB3.out⟩
end Go.Proofs.Ytblehkoonajofaa.PShape
