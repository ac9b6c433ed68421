/- Pitch: the calls beside. -/
import Derived.Test.YtblehkoonajofaaPitchFeed
namespace Go.Proofs.Ytblehkoonajofaa.PPitch
open Go.RowKit Go.Proofs.YtblehkoonajofaaW.PrintWords Go.Proofs.YtblehkoonajofaaW.PrintLast Go.Proofs.YtblehkoonajofaaW.PrintMore
attribute [local go_sem] max2_int min2_int max_two min_two max_three min_three max_four min_four   -- for this text's walks alone
set_option linter.unusedVariables false
set_option linter.unusedSimpArgs false
theorem zeros86 : Try.zeroCells86 = (nums .i64 (List.replicate 79 0)).toArray := by kernel_rfl
theorem zeros95 : Try.zeroCells95 = (nums .i64 (List.replicate 79 0)).toArray := by kernel_rfl
theorem zeros84 : Try.zeroCells84 = (nums .i64 (List.replicate 79 0)).toArray := by kernel_rfl
theorem size84 : (Try.prog.info? 84).map (·.size) = some 79 := by kernel_rfl
theorem one84 : Try.zeroCells84.all (·.oneCell') = true := by kernel_rfl
theorem zs84 : Try.zeroCells84.size = 79 := by kernel_rfl
theorem res_two (w : World) (g : Nat) (a b : Int) (h : w.heap[g]? = some (.cells #[.int .i64 a, .int .i64 b] 29 (0, 0))) : w.cell? ⟨g, 0, none⟩ = some (.int .i64 a) ∧ w.cell? ⟨g, 1, none⟩ = some (.int .i64 b) :=
  ⟨by rw [blk_cell h]; rfl, by rw [blk_cell h]; rfl⟩
theorem pitch_Hunter_Feed.long (p : Nat) (A : Option Addr) (n c : Nat) (w : World) (hn : 120 < n) :
    Calls Try.prog 15 #[.pointer (some ⟨p, 0, none⟩), .slice A n c] w fun e w' => e = .returned (.tuple #[.agg #[.int .i64 0, .int .i64 0], .int .i64 2]) ∧ Below w.heap.size w w' := by
  have t0 : decide ((120 : Int) < (n : Int)) = true := decide_eq_true (by omega)
  have t1 : decide (120 < n) = true := decide_eq_true hn
  clear hn
  go_enter Try.func15, Try.ntmps15
  go_wp2
  obtain ⟨f0, f1⟩ := res_two (w.alloc (.cells #[.int .i64 0, .int .i64 0] 29)) w.heap.size 0 0 (blk_new _ _)
  exact bodyPost_ret (v := .tuple #[.agg #[.int .i64 0, .int .i64 0], .int .i64 2]) (by simp [results, Try.results15, go_sem, f0, f1]) rfl ⟨rfl, below_alloc (Below.refl _ _) _⟩
theorem pitch_Hunter_Feed.nil (A : Option Addr) (n c : Nat) (w : World) :
    Calls Try.prog 15 #[.pointer none, .slice A n c] w fun e w' => e = .returned (.tuple #[.agg #[.int .i64 0, .int .i64 0], .int .i64 3]) ∧ Below w.heap.size w w' := by
  go_enter Try.func15, Try.ntmps15
  go_wp2
  obtain ⟨f0, f1⟩ := res_two (w.alloc (.cells #[.int .i64 0, .int .i64 0] 29)) w.heap.size 0 0 (blk_new _ _)
  exact bodyPost_ret (v := .tuple #[.agg #[.int .i64 0, .int .i64 0], .int .i64 3]) (by simp [results, Try.results15, go_sem, f0, f1]) rfl ⟨rfl, below_alloc (Below.refl _ _) _⟩
theorem pitch_NewHunter.calls (w : World) :
    Calls Try.prog 14 #[] w fun e w' => e = .returned (.pointer (some ⟨w.heap.size, 0, none⟩)) ∧ Past w' w.heap.size 86 (List.replicate 79 0) ∧ Below w.heap.size w w' := by
  go_enter Try.func14, Try.ntmps14
  go_wp2
  go_ret
  exact ⟨rfl, ⟨by rw [zeros86]; exact blk_new _ _, by simp⟩, below_alloc (Below.refl _ _) _⟩
theorem pitch_NewComb.calls (w : World) :
    Calls Try.prog 17 #[] w fun e w' => e = .returned (.pointer (some ⟨w.heap.size, 0, none⟩)) ∧ Past w' w.heap.size 95 (List.replicate 79 0) ∧ Below w.heap.size w w' := by
  go_enter Try.func17, Try.ntmps17
  go_wp2
  go_ret
  exact ⟨rfl, ⟨by rw [zeros95]; exact blk_new _ _, by simp⟩, below_alloc (Below.refl _ _) _⟩
theorem reset_end {w : World} {p ty : Nat} {P : List Int} (hp : Past w p ty P) : Past (w.setRow p Try.zeroCells84) p ty (List.replicate 79 0) ∧ Only w (w.setRow p Try.zeroCells84) p :=
  ⟨⟨by rw [setRow_heap w p _ _ ty _ hp.1, zeros84], by simp⟩, ⟨rfl, rfl, rfl, by simp, fun i _ hi => setRow_other w p i _ hi⟩⟩
theorem pitch_Hunter_Reset.calls (p : Nat) (P : List Int) (w : World) (hp : Past w p 86 P) :
    Calls Try.prog 23 #[.pointer (some ⟨p, 0, none⟩)] w fun e w' => e = .returned (.tuple #[]) ∧ Past w' p 86 (List.replicate 79 0) ∧ Only w w' p := by
  have HP := Aside0.mk hp
  clear hp
  go_enter Try.func23, Try.ntmps23
  go_wp2_with (first | (refine wpList_store_row rfl 84 (.tmp 7) (.tmp 5) rfl p Try.zeroCells84 rfl rfl 86 (nums .i64 P).toArray HP.out.1 (by rw [size84, zs84]) (by rw [zs84]; simp [nums, HP.out.2]) one84 ?_))
  go_end0
  exact ⟨rfl, reset_end HP.out⟩
theorem pitch_Comb_Reset.calls (p : Nat) (P : List Int) (w : World) (hp : Past w p 95 P) :
    Calls Try.prog 28 #[.pointer (some ⟨p, 0, none⟩)] w fun e w' => e = .returned (.tuple #[]) ∧ Past w' p 95 (List.replicate 79 0) ∧ Only w w' p := by
  have HP := Aside0.mk hp
  clear hp
  go_enter Try.func28, Try.ntmps28
  go_wp2_with (first | (refine wpList_store_row rfl 84 (.tmp 7) (.tmp 5) rfl p Try.zeroCells84 rfl rfl 95 (nums .i64 P).toArray HP.out.1 (by rw [size84, zs84]) (by rw [zs84]; simp [nums, HP.out.2]) one84 ?_))
  go_end0
  exact ⟨rfl, reset_end HP.out⟩
theorem pitch_Hunter_Reset.nil (w : World) : Calls Try.prog 23 #[.pointer none] w fun e w' => e = .returned (.tuple #[]) ∧ w = w' := by
  go_enter Try.func23, Try.ntmps23
  go_wp2
  go_end0
  exact ⟨rfl, rfl⟩
theorem pitch_Comb_Reset.nil (w : World) : Calls Try.prog 28 #[.pointer none] w fun e w' => e = .returned (.tuple #[]) ∧ w = w' := by
  go_enter Try.func28, Try.ntmps28
  go_wp2
  go_end0
  exact ⟨rfl, rfl⟩
end Go.Proofs.Ytblehkoonajofaa.PPitch
