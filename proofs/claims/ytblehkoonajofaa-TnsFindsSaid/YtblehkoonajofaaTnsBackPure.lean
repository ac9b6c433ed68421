/- Tns: there and back. -/
import Derived.Test.YtblehkoonajofaaTnsFind
import Derived.Test.YtblehkoonajofaaFixBaseTns
import Derived.Test.YtblehkoonajofaaLogsBaseTns
namespace Go.Proofs.Ytblehkoonajofaa.PTns
open Go.RowKit Go.Proofs.YtblehkoonajofaaW.PrintWords Go.Proofs.YtblehkoonajofaaW.PrintLast Go.Proofs.YtblehkoonajofaaW.PrintMore Go.Proofs.Ytblehkoonajofaa.RowAt
attribute [local go_sem] max2_int min2_int max_two min_two max_three min_three max_four min_four   -- for this text's walks alone
set_option linter.unusedVariables false
set_option linter.unusedSimpArgs false
section
open Go.Proofs.Ytblehkoonajofaa.Num
/-- How great a number at place j may be. -/
def bnd (j : Nat) : Int := 33554432 * 2 ^ j
theorem bnd_val : bnd 0 = 33554432 ∧ bnd 1 = 67108864 ∧ bnd 2 = 134217728 ∧ bnd 3 = 268435456 ∧ bnd 4 = 536870912 := by decide
theorem rnd16_in {a k B : Int} (hk : In16 k) (hB : 0 ≤ B) (ha : -B ≤ a ∧ a ≤ B) : -B ≤ rnd (a * k) 15 ∧ rnd (a * k) 15 ≤ B := by
  have hp := mul_abs (a := a) (b := k) (A := B) (B := 32768) ha.1 ha.2 (by have := hk.1; omega) (by have := hk.2; omega)
  have h2 : (2 : Int) ^ ((min 15 62 : Int).toNat - 1) = 16384 := by decide
  unfold rnd
  rw [if_neg (by decide), h2]
  omega
theorem sat_self {n : Int} (h1 : -2147483648 ≤ n) (h2 : n ≤ 2147483647) : sat32 n = n := clip_self h1 h2
theorem mul15_le {a k B : Int} (hk : In16 k) (hB : 0 ≤ B) (hb : B ≤ 1073741824) (ha : -B ≤ a ∧ a ≤ B) : -B ≤ mul15 a k ∧ mul15 a k ≤ B := by
  have h := rnd16_in hk hB ha
  unfold mul15
  rw [sat_self (by omega) (by omega)]; exact h
theorem addS_self {a b : Int} (h1 : -2147483648 ≤ a + b) (h2 : a + b ≤ 2147483647) : addS a b = a + b := sat_self h1 h2
theorem subS_self {a b : Int} (h1 : -2147483648 ≤ a - b) (h2 : a - b ≤ 2147483647) : subS a b = a - b := sat_self h1 h2
end
/-- The state's numbers are small. -/
def StB (S : List Int) : Prop := ∀ j, j < 4 → -(bnd j) ≤ S.getD j 0 ∧ S.getD j 0 ≤ bnd j
theorem bnd_succ (j : Nat) : bnd (j + 1) = 2 * bnd j := by unfold bnd; rw [Int.pow_succ]; omega
theorem bnd_le {j : Nat} (h : j ≤ 4) : 0 ≤ bnd j ∧ bnd j ≤ 536870912 := by
  have hc : j = 0 ∨ j = 1 ∨ j = 2 ∨ j = 3 ∨ j = 4 := by omega
  rcases hc with rfl | rfl | rfl | rfl | rfl <;> decide
theorem up_step {K S : List Int} {x : Int} (hK : In16K K) (hS : StB S) {j : Nat} (hj : j < 4) (hf : -(bnd j) ≤ frontUp K S x j ∧ frontUp K S x j ≤ bnd j) :
    frontUp K S x (j + 1) = frontUp K S x j + mul15 (S.getD j 0) (K.getD j 0) ∧ (-(bnd j) ≤ mul15 (S.getD j 0) (K.getD j 0) ∧ mul15 (S.getD j 0) (K.getD j 0) ≤ bnd j) := by
  have hb := bnd_le (j := j) (by omega)
  have hm := mul15_le (hK.2 j hj) hb.1 (by omega) (hS j hj)
  refine ⟨?_, hm⟩
  show addS _ _ = _
  exact addS_self (by omega) (by omega)
theorem up_bound {K S : List Int} {x : Int} (hK : In16K K) (hS : StB S) (hx : -33554432 ≤ x ∧ x ≤ 33554432) : ∀ j, j ≤ 4 → -(bnd j) ≤ frontUp K S x j ∧ frontUp K S x j ≤ bnd j
  | 0, _ => by rw [bnd_val.1]; exact hx
  | j+1, h => by
    have h1 := up_bound hK hS hx j (by omega)
    have h2 := up_step hK hS (by omega) h1
    rw [h2.1, bnd_succ]; omega
theorem down_up {K S : List Int} {x : Int} (hK : In16K K) (hS : StB S) (hx : -33554432 ≤ x ∧ x ≤ 33554432) : ∀ d, d ≤ 4 → frontDown K S (frontUp K S x 4) d = frontUp K S x (4 - d)
  | 0, _ => rfl
  | d+1, h => by
    have h1 := down_up hK hS hx d (by omega)
    have hb := up_bound hK hS hx (4 - (d + 1)) (by omega)
    have h2 := up_step hK hS (j := 4 - (d + 1)) (by omega) hb
    rw [show 4 - (d + 1) + 1 = 4 - d from by omega] at h2
    show subS _ _ = _
    rw [h1, h2.1, show 3 - d = 4 - (d + 1) from by omega]
    have h3 := bnd_le (j := 4 - (d + 1)) (by omega)
    rw [subS_self (by omega) (by omega)]; omega
theorem downL_upL {K S : List Int} {x : Int} (hK : In16K K) (hS : StB S) (hx : -33554432 ≤ x ∧ x ≤ 33554432) : downL K S (frontUp K S x 4) = upL K S x := by
  apply List.ext_getElem (by rw [downL_length, upL_length])
  intro j h1 h2
  rw [upL_length] at h2
  have a := downL_at K S (frontUp K S x 4) (j := j) h2
  have b := upL_at K S x (j := j) h2
  rw [down_up hK hS hx (4 - j) (by omega), show 4 - (4 - j) = j from by omega] at a
  rw [List.getD_eq_getElem?_getD, List.getElem?_eq_getElem h1] at a
  rw [List.getD_eq_getElem?_getD, List.getElem?_eq_getElem (by rw [upL_length]; exact h2)] at b
  exact (show (downL K S (frontUp K S x 4))[j] = frontUp K S x j from a).trans b.symm
theorem next_small {K S : List Int} {x : Int} (hK : In16K K) (hS : StB S) (hx : -33554432 ≤ x ∧ x ≤ 33554432) : StB (nextS K S (upL K S x)) := by
  intro j hj
  rw [nextS_at _ _ _ hj]
  cases j with
  | zero => show -(bnd 0) ≤ (upL K S x).getD 0 0 ∧ _; rw [upL_at _ _ _ (by decide)]; exact up_bound hK hS hx 0 (by decide)
  | succ j =>
    show -(bnd (j + 1)) ≤ addS (S.getD j 0) (mul15 ((upL K S x).getD j 0) (K.getD j 0)) ∧ addS (S.getD j 0) (mul15 ((upL K S x).getD j 0) (K.getD j 0)) ≤ _
    rw [upL_at _ _ _ (by omega)]
    have hb := bnd_le (j := j) (by omega)
    have hf := up_bound hK hS hx j (by omega)
    have hm := mul15_le (hK.2 j (by omega)) hb.1 (by omega) hf
    have hs := hS j (by omega)
    rw [addS_self (by omega) (by omega), bnd_succ]; omega
def Small25 (x : List Int) : Prop := ∀ i, -33554432 ≤ x.getD i 0 ∧ x.getD i 0 ≤ 33554432
theorem stUp_small {K x : List Int} (hK : In16K K) (hx : Small25 x) : ∀ i, StB (stUp K x i)
  | 0 => by unfold stUp StB; decide
  | i+1 => next_small hK (stUp_small hK hx i) (hx i)
theorem st_back {K x : List Int} (hK : In16K K) (hx : Small25 x) : ∀ i, i ≤ x.length → stDown K (upLines K x) i = stUp K x i
  | 0, _ => rfl
  | i+1, h => by
    have h1 := st_back hK hx i (by omega)
    show nextS K (stDown K (upLines K x) i) (downL K (stDown K (upLines K x) i) ((upLines K x).getD i 0)) = nextS K (stUp K x i) (upL K (stUp K x i) (x.getD i 0))
    rw [h1, upLines_at K x (by omega)]
    unfold outUp
    rw [downL_upL hK (stUp_small hK hx i) (hx i)]
theorem lines_back {K x : List Int} (hK : In16K K) (hx : Small25 x) : downLines K (upLines K x) = x := by
  apply List.ext_getElem (by rw [downLines_length, upLines_length])
  intro i h1 h2
  have a := downLines_at K (upLines K x) (i := i) (by rw [upLines_length]; exact h2)
  unfold outDown at a
  rw [st_back hK hx i (by omega), upLines_at K x h2] at a
  unfold outUp at a
  rw [down_up hK (stUp_small hK hx i) (hx i) 4 (by decide)] at a
  rw [List.getD_eq_getElem?_getD, List.getElem?_eq_getElem h1] at a
  have b : x.getD i 0 = x[i] := by rw [List.getD_eq_getElem?_getD, List.getElem?_eq_getElem h2]; rfl
  exact (show (downLines K (upLines K x))[i] = x.getD i 0 from a).trans b
/-- What a filter makes of lines, and what it makes of them on the way back. -/
def runF (o : Int) (a x : List Int) : List Int := if o = 0 then x else upLines (partsL a) x
def undoF (o : Int) (a x : List Int) : List Int := if o = 0 then x else downLines (partsL a) x
theorem runF_length (o : Int) (a x : List Int) : (runF o a x).length = x.length := by unfold runF; split; rfl; exact upLines_length _ _
theorem undoF_length (o : Int) (a x : List Int) : (undoF o a x).length = x.length := by unfold undoF; split; rfl; exact downLines_length _ _
theorem okFilt_k {o : Int} {a : List Int} (ha : a.length = 4) (hk : okFilt o a) : In16K (partsL a) := partsL_in ha fun j hj => by
  have h1 := hk.2 j hj
  rcases hk.1 with h | h <;> omega
theorem runF_in {o : Int} {a x : List Int} (hx : ∀ i, In32 (x.getD i 0)) : ∀ i, In32 ((runF o a x).getD i 0) := by
  intro i
  unfold runF; split
  · exact hx i
  · by_cases hi : i < x.length
    · rw [upLines_at _ _ hi]; exact frontUp_in (hx i) 4
    · rw [out_zero (upLines_length _ _) hi]; unfold In32; decide
theorem back {o : Int} {a x : List Int} (ha : a.length = 4) (hk : okFilt o a) (hx : Small25 x) : undoF o a (runF o a x) = x := by
  unfold undoF runF
  by_cases h : o = 0
  · rw [if_pos h, if_pos h]
  · rw [if_neg h, if_neg h]; exact lines_back (okFilt_k ha hk) hx
theorem tns_Run.any (A : Option Addr) (c : Nat) (x a : List Int) (o : Int) (w : World) (ha : a.length = 4) (hr : ReadsInt w .i32 A x.length x) (hn : x.length ≤ 120) (hx : ∀ i, In32 (x.getD i 0)) (hk : okFilt o a) :
    Calls Try.prog 33 #[.slice A x.length c, filtV o a] w fun e w' => ∃ v, e = .returned (.tuple #[v, .int .i64 0]) ∧ w'.ownsRow w.heap.size 21 1 v x.length (nums .i32 (runF o a x)) ∧ Below w.heap.size w w' := by
  rcases hk.1 with rfl | rfl
  · exact tns_Run.off A c x a w ha hr hn hk
  · exact tns_Run.on A c x a w ha hr hn hx hk
theorem tns_Undo.any (A : Option Addr) (c : Nat) (x a : List Int) (o : Int) (w : World) (ha : a.length = 4) (hr : ReadsInt w .i32 A x.length x) (hn : x.length ≤ 120) (hx : ∀ i, In32 (x.getD i 0)) (hk : okFilt o a) :
    Calls Try.prog 34 #[.slice A x.length c, filtV o a] w fun e w' => ∃ v, e = .returned (.tuple #[v, .int .i64 0]) ∧ w'.ownsRow w.heap.size 21 1 v x.length (nums .i32 (undoF o a x)) ∧ Below w.heap.size w w' := by
  rcases hk.1 with rfl | rfl
  · exact tns_Undo.off A c x a w ha hr hn hk
  · exact tns_Undo.on A c x a w ha hr hn hx hk
theorem found_ok (R : List Int) : (findIdx R).length = 4 ∧ okFilt (findOn R) (findIdx R) := by
  unfold findIdx findOn
  split
  · exact ⟨rfl, .inl rfl, by unfold idxUpto; decide⟩
  · refine ⟨idxS_length R, .inr rfl, fun j hj => ?_⟩
    rw [idxS_at R hj]
    have := nearUpto_le (kS R j) 17 (by decide)
    omega
end Go.Proofs.Ytblehkoonajofaa.PTns
