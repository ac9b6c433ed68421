/- Lists that are filled place by place, by stores or by appends; no program in sight. -/
import Derived.Test.YtblehkoonajofaaNum
namespace Go.Proofs.Ytblehkoonajofaa.Num
open Go.RowKit Go.Proofs.YtblehkoonajofaaW.PrintWords Go.Proofs.YtblehkoonajofaaW.PrintLast Go.Proofs.YtblehkoonajofaaW.PrintMore
set_option linter.unusedVariables false
set_option linter.unusedSimpArgs false

/-- As many places as n, the j-th told by V. -/
def Fills (n : Nat) (V : Int → Int) (r : List Int) : Prop := r.length = n ∧ ∀ j : Int, 0 ≤ j → j < n → rd r j = V j
theorem Fills.unique {n : Nat} {V : Int → Int} {r s : List Int} (h : Fills n V r) (g : Fills n V s) : r = s :=
  ext_rd (h.1.trans g.1.symm) fun i h0 h1 => by rw [h.2 i h0 (by have := h.1; omega), g.2 i h0 (by have := h.1; omega)]
theorem Fills.eq {n m : Nat} {V W : Int → Int} {r s : List Int} (h : Fills n V r) (g : Fills m W s) (hn : n = m) (hv : ∀ j : Int, 0 ≤ j → j < n → V j = W j) : r = s := by
  subst hn
  exact ext_rd (h.1.trans g.1.symm) fun i h0 h1 => by rw [h.2 i h0 (by have := h.1; omega), g.2 i h0 (by have := h.1; omega), hv i h0 (by have := h.1; omega)]
def Upto (V : Int → Int) (out : List Int) (i : Int) : Prop := ∀ j : Int, 0 ≤ j → j < i → rd out j = V j
theorem Upto.none (V : Int → Int) (out : List Int) : Upto V out 0 := fun j h0 h1 => by omega
theorem Upto.set {V : Int → Int} {out : List Int} {i v : Int} (h : Upto V out i) (i0 : 0 ≤ i) (i1 : i < out.length) (hv : v = V i) : Upto V (out.set i.toNat v) (i + 1) := fun j h0 h1 => by
  rw [rd_set i0 i1 h0]
  split
  · rw [hv]; exact congrArg V (Eq.symm ‹_›)
  · exact h j h0 (by omega)
theorem Upto.snoc {V : Int → Int} {out : List Int} {i v : Int} (h : Upto V out i) (i1 : i = out.length) (hv : v = V i) : Upto V (out ++ [v]) (i + 1) := fun j h0 h1 => by
  rw [rd_snoc h0 (by omega)]
  split
  · rw [hv]; exact congrArg V (by omega)
  · exact h j h0 (by omega)
theorem Upto.fills {V : Int → Int} {out : List Int} {i : Int} {n : Nat} (h : Upto V out i) (hl : out.length = n) (hi : (n : Int) ≤ i) : Fills n V out := ⟨hl, fun j h0 h1 => h j h0 (by omega)⟩
theorem len_set {out : List Int} {i : Int} {v : Int} {n : Nat} (h : out.length = n) : (out.set i.toNat v).length = n := by rw [List.length_set]; exact h
theorem len_snoc {out : List Int} {i : Int} {v : Int} (h : (out.length : Int) = i) : ((out ++ [v]).length : Int) = i + 1 := by rw [List.length_append]; simp; exact h
theorem tdiv_range {x n A : Int} (hn : 1 ≤ n) (h1 : -A ≤ x) (h2 : x ≤ A) : -A ≤ x.tdiv n ∧ x.tdiv n ≤ A := by
  rcases Int.le_total 0 x with h | h
  · rw [Int.tdiv_eq_ediv_of_nonneg h]
    have a := Int.ediv_nonneg h (show (0 : Int) ≤ n by omega)
    have b := Int.ediv_le_self n h
    omega
  · obtain ⟨y, rfl⟩ : ∃ y, x = -y := ⟨-x, by omega⟩
    rw [Int.neg_tdiv, Int.tdiv_eq_ediv_of_nonneg (by omega)]
    have a := Int.ediv_nonneg (show (0 : Int) ≤ y by omega) (show (0 : Int) ≤ n by omega)
    have b := Int.ediv_le_self n (show (0 : Int) ≤ y by omega)
    omega
def Sams (l : List Int) : Prop := ∀ x ∈ l, -32768 ≤ x ∧ x ≤ 32767
theorem Sams.of {l : List Int} (h : ∀ x ∈ l, (Lit.int .i16 x).wf = true) : Sams l := fun x hx => i16_of (h x hx)
theorem Sams.at {l : List Int} (h : Sams l) {i : Int} (h0 : 0 ≤ i) (h1 : i < l.length) : -32768 ≤ rd l i ∧ rd l i ≤ 32767 := rd_all h h0 h1
theorem Sams.nil : Sams [] := fun x hx => by cases hx
/-- The i-th of a list, 0 beyond it. -/
def smp (l : List Int) (i : Int) : Int := if i < l.length then rd l i else 0
theorem Sams.smp {l : List Int} (h : Sams l) {i : Int} (h0 : 0 ≤ i) : -32768 ≤ Num.smp l i ∧ Num.smp l i ≤ 32767 := by
  unfold Num.smp
  split
  · exact h.at h0 ‹_›
  · omega
end Go.Proofs.Ytblehkoonajofaa.Num
