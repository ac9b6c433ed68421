/- Pitch: the chapter's example. -/
import Derived.Test.YtblehkoonajofaaPitchComb
import Derived.Test.YtblehkoonajofaaLogsBasePitch
import Derived.Test.YtblehkoonajofaaRefLogsPitch
namespace Go.Proofs.Ytblehkoonajofaa.PPitch
open Go.RowKit Go.Proofs.YtblehkoonajofaaW.PrintWords Go.Proofs.YtblehkoonajofaaW.PrintLast Go.Proofs.YtblehkoonajofaaW.PrintMore
open Go.Proofs.Ytblehkoonajofaa.Num (rnd sat16 sat32 clip)
attribute [local go_sem] max2_int min2_int max_two min_two max_three min_three max_four min_four   -- for this text's walks alone
set_option linter.unusedVariables false
set_option linter.unusedSimpArgs false
def pulse : List Int := (List.range 80).map fun i => if i % 20 = 0 then 1000 else 0
def pulse2 : List Int := pulse.drop 1 ++ pulse
set_option maxRecDepth 100000 in
theorem t1 : psum pulse2 0 20 80 = 4000000 := by decide +kernel
set_option maxRecDepth 100000 in
theorem t2 : pbest pulse2 80 5 = (20, 4000000) := by decide +kernel
set_option maxRecDepth 100000 in
theorem t3 : pbest pulse2 80 63 = (20, 4000000) := by decide +kernel
def pulse1 : List Int := List.replicate 79 0 ++ pulse
set_option maxRecDepth 100000 in
theorem t4 : pbest pulse1 80 63 = (20, 3000000) := by decide +kernel
set_option maxRecDepth 100000 in
theorem t5 : pitch_strength.f 50 4000000 4000000 4000000 = some 3 := by decide +kernel
set_option maxRecDepth 100000 in
theorem t6 : pitch_strength.f 50 3000000 4000000 3000000 = some 2 := by decide +kernel
set_option maxRecDepth 100000 in
theorem t7 : pitch_strength.f 50 0 0 0 = some 0 := by decide +kernel
set_option maxRecDepth 100000 in
theorem t8 : psum pulse2 0 0 80 = 4000000 ∧ psum pulse1 0 0 80 = 4000000 ∧ psum pulse1 20 20 80 = 3000000 ∧ psum pulse2 20 20 80 = 4000000 := by decide +kernel
theorem rd_zeros (n : Nat) (i : Int) : rd (List.replicate n 0) i = 0 := by
  unfold rd
  rw [List.getD_eq_getElem?_getD, List.getElem?_replicate]
  split <;> rfl
theorem psum_zeros (n : Nat) (a b : Int) : ∀ k, psum (List.replicate n 0) a b k = 0
  | 0 => rfl
  | k + 1 => by unfold psum; rw [psum_zeros n a b k, rd_zeros, rd_zeros]; unfold wrap64; decide
theorem pbest_zeros (n K : Nat) : ∀ m, pbest (List.replicate n 0) K m = (16, 0)
  | 0 => by unfold pbest; rw [psum_zeros]
  | m + 1 => by
    unfold pbest
    rw [pbest_zeros n K m, psum_zeros, if_neg (by decide)]
def pul (k : Nat) : List Int := (List.range 80).map fun i => if i % 20 = 0 ∧ i < 20 * k then 1000 else 0
theorem pul0 : pul 0 = List.replicate 80 0 := by decide +kernel
theorem pul4 : pul 4 = pulse := by decide +kernel
theorem pul_next : ∀ k : Fin 4, (pul k.val).set (20 * k.val) 1000 = pul (k.val + 1) := by decide +kernel
theorem pul_length (k : Nat) : (pul k).length = 80 := by simp [pul]
structure AInv (w wx : World) (p gv gx : Nat) (P L : List Int) : Prop where
  pp : Past wx p 86 P
  vp : wx.heap[gv]? = some (.cells #[.int .i64 0, .int .i64 0] 29 (0, 0))
  xx : wx.heap[gx]? = some (.cells (nums .i16 L).toArray 33 (0, 0))
  be : Below w.heap.size w wx
  ge : w.heap.size ≤ p
theorem AInv.feed {w wx wy : World} {p gv gx : Nat} {P L Q : List Int} (h : AInv w wx p gv gx P L) (g1 : Past wy p 86 Q) (g2 : Only wx wy p) : AInv w wy p gv gx Q L := by
  have e1 : gv ≠ p := by intro e; subst e; have h1 := h.pp.1; rw [h.vp] at h1; simp at h1
  have e2 : gx ≠ p := by intro e; subst e; have h1 := h.pp.1; rw [h.xx] at h1; simp at h1
  exact ⟨g1, (g2.block _ (blk_lt h.vp) e1).trans h.vp, (g2.block _ (blk_lt h.xx) e2).trans h.xx, g2.below h.be (below_size h.be) h.ge, h.ge⟩
theorem AInv.set {w wx : World} {p gv gx : Nat} {P L : List Int} (h : AInv w wx p gv gx P L) (hg : w.heap.size ≤ gx) (i : Nat) (v : Int) : AInv w (wx.setCell ⟨gx, i, none⟩ (.int .i16 v)) p gv gx P (L.set i v) := by
  have e1 : gv ≠ gx := by intro e; subst e; have h1 := h.vp; rw [h.xx] at h1; simp at h1
  have e2 : p ≠ gx := by intro e; subst e; have h1 := h.pp.1; rw [h.xx] at h1; simp at h1
  exact ⟨⟨(Below.heap_setCell _ _ _ _ e2).trans h.pp.1, h.pp.2⟩, (Below.heap_setCell _ _ _ _ e1).trans h.vp, blk_store h.xx i v, h.be.setCell hg _, h.ge⟩
theorem i16_zeros (n : Nat) : ∀ v ∈ List.replicate n (0 : Int), -32768 ≤ v ∧ v ≤ 32767 := fun v hv => by rw [List.eq_of_mem_replicate hv]; omega
theorem i16_pulse : ∀ v ∈ pulse, -32768 ≤ v ∧ v ≤ 32767 := by decide +kernel
theorem str_zeros (n K : Nat) : pitch_strength.f 50 (pbest (List.replicate n 0) K 63).2 (IntKind.u64.wrap (psum (List.replicate n 0) 0 0 K)) (IntKind.u64.wrap (psum (List.replicate n 0) (pbest (List.replicate n 0) K 63).1 (pbest (List.replicate n 0) K 63).1 K)) = some 0 := by
  rw [pbest_zeros, psum_zeros, psum_zeros]
  decide +kernel
theorem str_pulse1 : pitch_strength.f 50 (pbest pulse1 80 63).2 (IntKind.u64.wrap (psum pulse1 0 0 80)) (IntKind.u64.wrap (psum pulse1 (pbest pulse1 80 63).1 (pbest pulse1 80 63).1 80)) = some 2 := by
  rw [t4, t8.2.1, t8.2.2.1]
  decide +kernel
theorem str_pulse2 : pitch_strength.f 50 (pbest pulse2 80 63).2 (IntKind.u64.wrap (psum pulse2 0 0 80)) (IntKind.u64.wrap (psum pulse2 (pbest pulse2 80 63).1 (pbest pulse2 80 63).1 80)) = some 3 := by
  rw [t3, t8.1, t8.2.2.2]
  decide +kernel
end Go.Proofs.Ytblehkoonajofaa.PPitch
