/- Tns: the filter that is found. -/
import Derived.Test.YtblehkoonajofaaTnsAlike
import Derived.Test.YtblehkoonajofaaFixBaseTns
import Derived.Test.YtblehkoonajofaaLogsBaseTns
namespace Go.Proofs.Ytblehkoonajofaa.PTns
open Go.RowKit Go.Proofs.YtblehkoonajofaaW.PrintWords Go.Proofs.YtblehkoonajofaaW.PrintLast Go.Proofs.YtblehkoonajofaaW.PrintMore Go.Proofs.Ytblehkoonajofaa.RowAt
attribute [local go_sem] max2_int min2_int max_two min_two max_three min_three max_four min_four   -- for this text's walks alone
set_option linter.unusedVariables false
set_option linter.unusedSimpArgs false
section
open Go.Proofs.Ytblehkoonajofaa.Num
/-- Each number at most B, whatever its sign. -/
def InB (B : Int) (L : List Int) : Prop := ∀ j, -B ≤ L.getD j 0 ∧ L.getD j 0 ≤ B
theorem rnd15_in {k v B : Int} (hk : -32767 ≤ k ∧ k ≤ 32767) (hB : 0 ≤ B) (hv : -B ≤ v ∧ v ≤ B) : -B ≤ rnd (k * v) 15 ∧ rnd (k * v) 15 ≤ B := by
  have hp := mul_abs (a := k) (b := v) (A := 32767) (B := B) (by omega) (by omega) hv.1 hv.2
  have h2 : (2 : Int) ^ ((min 15 62 : Int).toNat - 1) = 16384 := by decide
  unfold rnd
  rw [if_neg (by decide), h2]
  omega
def kV (U V : List Int) : Int := if V.getD 0 0 > 0 then clip (Int.tdiv (-(U.getD 0 0) * 32768) (V.getD 0 0)) (-32767) 32767 else 0
theorem kV_in (U V : List Int) : -32767 ≤ kV U V ∧ kV U V ≤ 32767 := by
  unfold kV; split
  · exact clip_range (by decide)
  · decide
def uNew (k : Int) (U V : List Int) (n j : Nat) : Int := if j + 1 < n then U.getD (j + 1) 0 + rnd (k * V.getD (j + 1) 0) 15 else U.getD j 0
def vNew (k : Int) (U V : List Int) (n j : Nat) : Int := if j < n then V.getD j 0 + rnd (k * U.getD j 0) 15 else V.getD j 0
def uL (k : Int) (U V : List Int) (n : Nat) : List Int := (List.range 4).map (uNew k U V n)
def vL (k : Int) (U V : List Int) (n : Nat) : List Int := (List.range 4).map (vNew k U V n)
end
theorem uL_length (k : Int) (U V : List Int) (n : Nat) : (uL k U V n).length = 4 := by simp [uL]
theorem vL_length (k : Int) (U V : List Int) (n : Nat) : (vL k U V n).length = 4 := by simp [vL]
theorem uL_at (k : Int) (U V : List Int) (n : Nat) {j : Nat} (hj : j < 4) : (uL k U V n).getD j 0 = uNew k U V n j := by
  rw [uL, List.getD_eq_getElem?_getD, List.getElem?_map, List.getElem?_range hj]; rfl
theorem vL_at (k : Int) (U V : List Int) (n : Nat) {j : Nat} (hj : j < 4) : (vL k U V n).getD j 0 = vNew k U V n j := by
  rw [vL, List.getD_eq_getElem?_getD, List.getElem?_map, List.getElem?_range hj]; rfl
theorem out_zero {L : List Int} {n j : Nat} (h : L.length = n) (hj : ¬ j < n) : L.getD j 0 = 0 := by
  rw [List.getD_eq_getElem?_getD, List.getElem?_eq_none (by omega)]; rfl
theorem uL_in {k B : Int} {U V : List Int} {n : Nat} (hk : -32767 ≤ k ∧ k ≤ 32767) (hB : 0 ≤ B) (hU : InB B U) (hV : InB B V) : InB (2 * B) (uL k U V n) := by
  intro j
  by_cases hj : j < 4
  · rw [uL_at _ _ _ _ hj]; unfold uNew
    have h1 := hU (j + 1); have h2 := hU j; have h3 := rnd15_in hk hB (hV (j + 1))
    split <;> omega
  · rw [out_zero (uL_length _ _ _ _) hj]; omega
theorem vL_in {k B : Int} {U V : List Int} {n : Nat} (hk : -32767 ≤ k ∧ k ≤ 32767) (hB : 0 ≤ B) (hU : InB B U) (hV : InB B V) : InB (2 * B) (vL k U V n) := by
  intro j
  by_cases hj : j < 4
  · rw [vL_at _ _ _ _ hj]; unfold vNew
    have h1 := hV j; have h3 := rnd15_in hk hB (hU j)
    split <;> omega
  · rw [out_zero (vL_length _ _ _ _) hj]; omega
/-- The two rows of the recursion, behind m steps. -/
def uvS (R : List Int) : Nat → List Int × List Int
  | 0 => (R.drop 1, R.take 4)
  | m+1 => (uL (kV (uvS R m).1 (uvS R m).2) (uvS R m).1 (uvS R m).2 (4 - m), vL (kV (uvS R m).1 (uvS R m).2) (uvS R m).1 (uvS R m).2 (4 - m))
def kS (R : List Int) (m : Nat) : Int := kV (uvS R m).1 (uvS R m).2
def idxS (R : List Int) : List Int := (List.range 4).map fun m => ((nearUpto (kS R m) 17 : Nat) : Int)
theorem idxS_length (R : List Int) : (idxS R).length = 4 := by simp [idxS]
theorem idxS_at (R : List Int) {m : Nat} (hm : m < 4) : (idxS R).getD m 0 = ((nearUpto (kS R m) 17 : Nat) : Int) := by
  rw [idxS, List.getD_eq_getElem?_getD, List.getElem?_map, List.getElem?_range hm]; rfl
theorem uvS_len (R : List Int) (hR : R.length = 5) : ∀ m, (uvS R m).1.length = 4 ∧ (uvS R m).2.length = 4
  | 0 => by simp [uvS, hR]
  | m+1 => ⟨uL_length _ _ _ _, vL_length _ _ _ _⟩
theorem uvS_in (R : List Int) (hR : R.length = 5) (hB : InB 137438953472 R) : ∀ m, InB (137438953472 * 2 ^ m) (uvS R m).1 ∧ InB (137438953472 * 2 ^ m) (uvS R m).2
  | 0 => by
    refine ⟨fun j => ?_, fun j => ?_⟩
    · have h := hB (1 + j)
      simp only [uvS]
      rw [List.getD_eq_getElem?_getD, List.getElem?_drop, ← List.getD_eq_getElem?_getD]; simpa using h
    · have h := hB j
      simp only [uvS]
      rw [List.getD_eq_getElem?_getD, List.getElem?_take]
      split
      · rw [← List.getD_eq_getElem?_getD]; simpa using h
      · simp
  | m+1 => by
    have h := uvS_in R hR hB m
    have hp : (0 : Int) ≤ 137438953472 * 2 ^ m := by have := Go.Proofs.Ytblehkoonajofaa.Num.pow_pos' m; omega
    have e : (137438953472 * 2 ^ (m + 1) : Int) = 2 * (137438953472 * 2 ^ m) := by rw [Int.pow_succ]; omega
    rw [e]
    exact ⟨uL_in (kV_in _ _) hp h.1 h.2, vL_in (kV_in _ _) hp h.1 h.2⟩
theorem corrL_in {x : List Int} (hx : ∀ i, In32 (x.getD i 0)) (hn : x.length ≤ 120) : InB 137438953472 (corrL x) := by
  intro j
  by_cases hj : j < 5
  · rw [corrL_at x hj]
    have := corr_range (aV x) j x.length (fun i hi => aV_range hx i hi) x.length (Nat.le_refl _)
    omega
  · rw [out_zero (corrL_length x) hj]; decide
/-- Is it nothing that is found? -/
def noneB (R : List Int) : Bool := decide (R.getD 0 0 ≤ 0) || decide (2 * R.getD 0 0 < 3 * (uvS R 4).2.getD 0 0) || decide (idxS R = [8, 8, 8, 8])
def findOn (R : List Int) : Int := if noneB R then 0 else 1
def findIdx (R : List Int) : List Int := if noneB R then z4 else idxS R
structure DI (w : World) (b4 b7 gu cu gv cv : Nat) (R U V I : List Int) (wx : World) : Prop where
  z : wx.heap[w.heap.size]? = some (.cells #[.int .i64 0, .int .i64 0, .int .i64 0, .int .i64 0, .int .i64 0] 60 (0, 0))
  r : wx.heap[b4]? = some (.cells (nums .i64 R).toArray 113 (0, 0))
  f : wx.heap[b7]? = some (.cells (.int .i64 1 :: nums .i64 I).toArray 60 (0, 0))
  u : wx.ownsRow w.heap.size 2 1 (.slice (some ⟨gu, 0, none⟩) 4 cu) 4 (nums .i64 U)
  v : wx.ownsRow w.heap.size 2 1 (.slice (some ⟨gv, 0, none⟩) 4 cv) 4 (nums .i64 V)
  ne : gu ≠ gv
  be : Below w.heap.size w wx
  b7g : w.heap.size < b7
section
variable {w wx wy : World} {b4 b7 gu cu gv cv : Nat} {R U V I : List Int}
theorem DI.later (h : DI w b4 b7 gu cu gv cv R U V I wx) (hb : Below wx.heap.size wx wy) : DI w b4 b7 gu cu gv cv R U V I wy :=
  ⟨box_later h.z hb, box_later h.r hb, box_later h.f hb, h.u.kept (grown_of_below hb none) (by cases Value.ownBlock _ <;> simp), h.v.kept (grown_of_below hb none) (by cases Value.ownBlock _ <;> simp), h.ne, below_step h.be hb, h.b7g⟩
theorem nums_set (L : List Int) (j : Nat) (x : Int) : (nums .i64 L).set j (.int .i64 x) = nums .i64 (L.set j x) := by simp [nums, List.map_set]
theorem DI.setU (h : DI w b4 b7 gu cu gv cv R U V I wx) (j : Nat) (x : Int) : DI w b4 b7 gu cu gv cv R (U.set j x) V I (wx.setCell ⟨gu, j, none⟩ (.int .i64 x)) := by
  have e1 : w.heap.size ≠ gu := fun e => own_ne h.u h.z (by decide) (by rw [e]; rfl)
  have e2 : b4 ≠ gu := fun e => own_ne h.u h.r (by decide) (by rw [e]; rfl)
  have e3 : b7 ≠ gu := fun e => own_ne h.u h.f (by decide) (by rw [e]; rfl)
  refine ⟨(Below.heap_setCell _ _ _ _ e1).trans h.z, (Below.heap_setCell _ _ _ _ e2).trans h.r, (Below.heap_setCell _ _ _ _ e3).trans h.f, ?_, own_setCell (p := ⟨gu, j, none⟩) h.v (fun e => h.ne (Option.some.inj e)) _, h.ne, h.be.setCell (h.u.lt gu rfl).1 _, h.b7g⟩
  have g := (h.u.stored j (.int .i64 x)).1
  rwa [nums_set] at g
theorem DI.setV (h : DI w b4 b7 gu cu gv cv R U V I wx) (j : Nat) (x : Int) : DI w b4 b7 gu cu gv cv R U (V.set j x) I (wx.setCell ⟨gv, j, none⟩ (.int .i64 x)) := by
  have e1 : w.heap.size ≠ gv := fun e => own_ne h.v h.z (by decide) (by rw [e]; rfl)
  have e2 : b4 ≠ gv := fun e => own_ne h.v h.r (by decide) (by rw [e]; rfl)
  have e3 : b7 ≠ gv := fun e => own_ne h.v h.f (by decide) (by rw [e]; rfl)
  refine ⟨(Below.heap_setCell _ _ _ _ e1).trans h.z, (Below.heap_setCell _ _ _ _ e2).trans h.r, (Below.heap_setCell _ _ _ _ e3).trans h.f, own_setCell (p := ⟨gv, j, none⟩) h.u (fun e => h.ne (Option.some.inj e).symm) _, ?_, h.ne, h.be.setCell (h.v.lt gv rfl).1 _, h.b7g⟩
  have g := (h.v.stored j (.int .i64 x)).1
  rwa [nums_set] at g
theorem DI.setF (h : DI w b4 b7 gu cu gv cv R U V I wx) (h4 : b4 ≠ b7) (j : Nat) (x : Int) : DI w b4 b7 gu cu gv cv R U V (I.set j x) (wx.setCell ⟨b7, 1 + j, none⟩ (.int .i64 x)) := by
  refine ⟨(Below.heap_setCell _ _ _ _ (by have := h.b7g; dsimp; omega)).trans h.z, (Below.heap_setCell _ _ _ _ h4).trans h.r, ?_, own_setCell (p := ⟨b7, 1 + j, none⟩) h.u (own_ne h.u h.f (by decide)) _, own_setCell (p := ⟨b7, 1 + j, none⟩) h.v (own_ne h.v h.f (by decide)) _, h.ne, h.be.setCell (Nat.le_of_lt h.b7g) _, h.b7g⟩
  have h1 := blk_set h.f (1 + j) (.int .i64 x)
  rw [h1, Nat.add_comm]; simp [nums, List.map_set]
theorem DI.uat (h : DI w b4 b7 gu cu gv cv R U V I wx) (hU : U.length = 4) {j : Nat} (hj : j < 4) : wx.cell? ⟨gu, j, none⟩ = some (.int .i64 (U.getD j 0)) := by
  rw [h.u.cellAt j (by omega), nums, List.getElem?_map, List.getElem?_eq_getElem (by omega), List.getD_eq_getElem?_getD, List.getElem?_eq_getElem (by omega)]; rfl
theorem DI.vat (h : DI w b4 b7 gu cu gv cv R U V I wx) (hV : V.length = 4) {j : Nat} (hj : j < 4) : wx.cell? ⟨gv, j, none⟩ = some (.int .i64 (V.getD j 0)) := by
  rw [h.v.cellAt j (by omega), nums, List.getElem?_map, List.getElem?_eq_getElem (by omega), List.getD_eq_getElem?_getD, List.getElem?_eq_getElem (by omega)]; rfl
end
theorem info_i64b : (Try.prog.info? 3).map (fun i => (i.zero, i.size, i.bytes)) = some (some (.int .i64 0), 1, 8) := by kernel_rfl
theorem arr4_eq (a0 a1 a2 a3 : Int) (W : World) : (binOp .eql 58 (.agg #[.int .i64 a0, .int .i64 a1, .int .i64 a2, .int .i64 a3]) (.agg #[.int .i64 8, .int .i64 8, .int .i64 8, .int .i64 8])).run Try.prog W = .ok (.bool (decide ([a0, a1, a2, a3] = [8, 8, 8, 8]))) W := by
  have h : Sem.run Try.prog (Op.equalIn 10000 58 (.agg #[.int .i64 a0, .int .i64 a1, .int .i64 a2, .int .i64 a3]) (.agg #[.int .i64 8, .int .i64 8, .int .i64 8, .int .i64 8])) W = .ok (decide ([a0, a1, a2, a3] = [8, 8, 8, 8])) W := by
    obtain ⟨i3, hi3, _⟩ := Option.map_eq_some_iff.1 info_i64b
    have hu : Try.prog.underlying 58 = some (.array 4 3) := by kernel_rfl
    have hc : Try.prog.cellsOf 3 = 1 := by kernel_rfl
    have h3 : Try.prog.underlying 3 = some (.int .i64) := by kernel_rfl
    rw [Go.run_equalIn_array W 9999 _ _ hu hi3, hc]
    simp only [List.range, List.range.loop, Op.eqItems, Sem.run_bind]
    by_cases e0 : a0 = 8 <;> by_cases e1 : a1 = 8 <;> by_cases e2 : a2 = 8 <;> by_cases e3 : a3 = 8 <;> simp [go_sem, h3, e0, e1, e2, e3]
  simp only [binOp]
  simp [Op.equal, Op.maxDepth, h]
theorem cut_hi (g n c : Nat) (hc : n ≤ c) (j : Nat) (hj : j ≤ n) : ∀ W, (Instr.slice 26 (.slice (some ⟨g, 0, none⟩) n c) none (some (.int .i64 (j : Int))) none).run Try.prog W = .ok (.slice (some ⟨g, 0, none⟩) j c) W := by
  obtain ⟨i2, hi2, hz⟩ := Option.map_eq_some_iff.1 info_i64
  simp only [Prod.mk.injEq] at hz
  have h := (print_take_of (Value.int .i64) (0 : Int) 26 2 .i64 Try.underlying26 hi2 hz.2.1 (some ⟨g, 0, none⟩) c (List.replicate n (0 : Int)) (j : Int) (by omega) (by rw [List.length_replicate]; omega) (by rw [List.length_replicate]; exact hc)).1
  rw [List.length_replicate] at h
  intro W
  rw [h W, Int.toNat_natCast, List.length_take, List.length_replicate, Nat.min_eq_left hj]
theorem mix_full {L h : List Int} {j n : Nat} (hL : L.length = n) (hh : h.length = n) (hs : ∀ i, j ≤ i → i < n → L.getD i 0 = h.getD i 0) : L.take j ++ h.drop j = L := by
  by_cases hj : j ≤ n
  · apply List.ext_getElem (by rw [List.length_append, List.length_take, List.length_drop]; omega)
    intro i h1 h2
    by_cases c : i < j
    · rw [List.getElem_append_left (by rw [List.length_take]; omega), List.getElem_take]
    · have := hs i (by omega) (by omega)
      rw [List.getD_eq_getElem?_getD, List.getElem?_eq_getElem (by omega), List.getD_eq_getElem?_getD, List.getElem?_eq_getElem (by omega)] at this
      rw [List.getElem_append_right (by rw [List.length_take]; omega), List.getElem_drop]
      simp only [List.length_take, Option.getD_some] at this ⊢
      rw [this]; congr 1; omega
  · rw [List.take_of_length_le (by omega), List.drop_eq_nil_of_le (by omega), List.append_nil]
theorem set_same {L : List Int} {j : Nat} {v : Int} (h : j < L.length) (hv : L.getD j 0 = v) : L.set j v = L := by
  rw [← hv, List.getD_eq_getElem?_getD, List.getElem?_eq_getElem h]; simp
theorem blk_off {w : World} {g ty : Nat} {L : List Int} {k : IntKind} (h : w.heap[g]? = some (.cells (nums k L).toArray ty (0, 0))) (o n : Nat) (hn : o + n ≤ L.length) (hm : n ≤ 9223372036854775807) : ReadsInt w k (some ⟨g, o, none⟩) n ((L.drop o).take n) :=
  ⟨by rw [List.length_take, List.length_drop]; omega, hm, fun _ => ⟨_, rfl, fun j hj => by
    rw [show (⟨g, o, none⟩ : Addr).add j = ⟨g, o + j, none⟩ from by simp [Addr.add], nums_at h (by omega), List.getD_eq_getElem?_getD, List.getD_eq_getElem?_getD, List.getElem?_take, if_pos hj, List.getElem?_drop]⟩⟩
theorem own_known {w : World} {base n : Nat} {e : TypeId} {v : Value} {xs : List Value} (h : w.ownsRow base e 1 v n xs) (hn : 0 < n) : ∃ g c, v = .slice (some ⟨g, 0, none⟩) n c := by
  rcases h.2 with ⟨_, h2⟩ | ⟨g, cap, cur, h2, _⟩
  · omega
  · exact ⟨g, cap, h2⟩
set_option maxRecDepth 100000 in
set_option maxHeartbeats 8000000 in
theorem tns_Find.calls (A : Option Addr) (c : Nat) (x : List Int) (w : World) (hr : ReadsInt w .i32 A x.length x) (hn : x.length ≤ 120) (hx : ∀ i, In32 (x.getD i 0)) :
    Calls Try.prog 30 #[.slice A x.length c] w fun e w' => e = .returned (.tuple #[filtV (findOn (corrL x)) (findIdx (corrL x)), .int .i64 0]) ∧ Below w.heap.size w w' := by
  have q0 : ¬ (120 : Int) < (x.length : Int) := by omega
  have HAL := Aside0.mk (fun W (g : ReadsInt W .i32 A x.length x) => tns_alike.calls A c x W g hn hx)
  have HIN := Aside0.mk (corrL_in hx hn)
  have HRL := Aside0.mk (corrL_length x)
  generalize corrL x = R at HAL HIN HRL ⊢
  have HUV := Aside0.mk (uvS_in R HRL.out HIN.out)
  have HUL := Aside0.mk (uvS_len R HRL.out)
  have HR := Aside0.mk hr
  obtain ⟨f0, f1, f2, f3, f4, h5⟩ := five HRL.out
  have HR5 := Aside0.mk (show (nums .i64 R).toArray = #[.int .i64 f0, .int .i64 f1, .int .i64 f2, .int .i64 f3, .int .i64 f4] from by rw [h5]; rfl)
  rw [HR5.out] at HAL
  have HRE := Aside0.mk h5
  clear hr hn hx h5
  have HBB := Aside0.mk (below_alloc (Below.refl w.heap.size w) (.cells #[.int .i64 0, .int .i64 0, .int .i64 0, .int .i64 0, .int .i64 0] 60))
  have HBX := Aside0.mk (blk_new w (.cells #[.int .i64 0, .int .i64 0, .int .i64 0, .int .i64 0, .int .i64 0] 60))
  go_enter Try.func30, Try.ntmps30
  go_wp2_with (first | (go_at_call 66; refine (HAL.out _ (reads_below HR.out HBB.out)).mono ?_; rintro e w3 ⟨rfl, hb_⟩; have HB3 := Aside0.mk (below_step HBB.out hb_); have HX3 := Aside0.mk (box_later HBX.out hb_); clear hb_) | (refine wpList_store_row rfl 113 _ _ rfl w3.heap.size #[.int .i64 f0, .int .i64 f1, .int .i64 f2, .int .i64 f3, .int .i64 f4] rfl rfl 113 #[.int .i64 0, .int .i64 0, .int .i64 0, .int .i64 0, .int .i64 0] (blk_new w3 _) (by kernel_rfl) (by kernel_rfl) (by kernel_rfl) ?_))
  change Code.wp _ _ _ _ ((w3.alloc (.cells #[.int .i64 0, .int .i64 0, .int .i64 0, .int .i64 0, .int .i64 0] 113)).setRow w3.heap.size #[.int .i64 f0, .int .i64 f1, .int .i64 f2, .int .i64 f3, .int .i64 f4])
  have hsr := setRow_heap (w3.alloc (.cells #[.int .i64 0, .int .i64 0, .int .i64 0, .int .i64 0, .int .i64 0] 113)) w3.heap.size #[.int .i64 0, .int .i64 0, .int .i64 0, .int .i64 0, .int .i64 0] #[.int .i64 f0, .int .i64 f1, .int .i64 f2, .int .i64 f3, .int .i64 f4] 113 (0, 0) (blk_new w3 _)
  have hbs := below_setRow (below_alloc (Below.refl w3.heap.size w3) (.cells #[.int .i64 0, .int .i64 0, .int .i64 0, .int .i64 0, .int .i64 0] 113)) (Nat.le_refl _) #[.int .i64 f0, .int .i64 f1, .int .i64 f2, .int .i64 f3, .int .i64 f4]
  have HLT := Aside0.mk (And.intro (blk_lt HX3.out) (below_size HB3.out))
  generalize (w3.alloc (.cells #[.int .i64 0, .int .i64 0, .int .i64 0, .int .i64 0, .int .i64 0] 113)).setRow w3.heap.size #[.int .i64 f0, .int .i64 f1, .int .i64 f2, .int .i64 f3, .int .i64 f4] = w4 at hsr hbs ⊢
  have HX4 := Aside0.mk (box_later HX3.out hbs)
  have HB4 := Aside0.mk (below_step HB3.out hbs)
  have HY4 := Aside0.mk (show w4.heap[w3.heap.size]? = some (.cells (nums .i64 R).toArray 113 (0, 0)) from by rw [HR5.out]; exact hsr)
  generalize w3.heap.size = b4 at HY4 HLT ⊢
  clear hsr hbs HX3 HB3 HBX HBB HAL HR q0
  have hbd := below_drew (Below.refl w4.heap.size w4)
  have HXd := Aside0.mk (box_later HX4.out hbd)
  have HYd := Aside0.mk (box_later HY4.out hbd)
  have HBd := Aside0.mk (below_step HB4.out hbd)
  have HU1 := Aside0.mk (show ((R.drop 1).take 4) = (uvS R 0).1 from by rw [List.take_of_length_le (by rw [List.length_drop, HRL.out]; exact Nat.le_refl _)]; rfl)
  have HV1 := Aside0.mk (show ((R.drop 0).take 4) = (uvS R 0).2 from rfl)
  clear hbd
  go_region_with (first | (go_at_call 67; refine (clone_i64.calls (some ⟨b4, 0, none⟩) 4 _ _ _ (blk_off HY5.out 0 4 (by rw [HRL.out]; decide) (by decide)) (by decide)).mono ?_; rintro e w6 ⟨v6, rfl, g1, hb_⟩; have HX6 := Aside0.mk (box_later HX5.out hb_); have HY6 := Aside0.mk (box_later HY5.out hb_); have HB6 := Aside0.mk (below_step HB5.out hb_); have HU6 := Aside0.mk (HU5.out.kept (grown_of_below hb_ none) (by cases Value.ownBlock _ <;> simp)); have HV6 := Aside0.mk g1; have HSZ := Aside0.mk (fun k h => (HU5.out.lt k h).2); clear g1 hb_) | (go_at_call 67; refine (clone_i64.calls (some ⟨b4, 1, none⟩) 4 _ _ _ (blk_off HYd.out 1 4 (by rw [HRL.out]; decide) (by decide)) (by decide)).mono ?_; rintro e w5 ⟨v5, rfl, g1, hb_⟩; have HX5 := Aside0.mk (box_later HXd.out hb_); have HY5 := Aside0.mk (box_later HYd.out hb_); have HB5 := Aside0.mk (below_step HBd.out hb_); have HU5 := Aside0.mk (own_lower g1 (below_size HBd.out)); clear g1 hb_))
  rw [HU1.out] at HU6
  rw [HV1.out] at HV6
  rw [(HUL.out 0).1] at HU6
  rw [(HUL.out 0).2] at HV6
  obtain ⟨gu, cu, rfl⟩ := own_known HU6.out (by decide)
  obtain ⟨gv, cv, rfl⟩ := own_known HV6.out (by decide)
  have HGN := Aside0.mk (show gu ≠ gv from by have h1 := HSZ.out gu rfl; have h2 := (HV6.out.lt gv rfl).1; omega)
  have HCU := Aside0.mk (own_cap HU6.out)
  have HCV := Aside0.mk (own_cap HV6.out)
  have HV7 := Aside0.mk (own_lower HV6.out (below_size HB5.out))
  clear HX4 HB4 HY4 HXd HYd HBd HX5 HY5 HB5 HU5 HV6 HSZ HU1 HV1 HIN
  go_wp2_with (first | (refine wpList_store_row rfl 60 _ _ rfl w6.heap.size #[.int .i64 1, .int .i64 0, .int .i64 0, .int .i64 0, .int .i64 0] rfl rfl 60 #[.int .i64 0, .int .i64 0, .int .i64 0, .int .i64 0, .int .i64 0] (blk_new w6 _) (by kernel_rfl) (by kernel_rfl) (by kernel_rfl) ?_))
  change Code.wp _ _ _ _ ((w6.alloc (.cells #[.int .i64 0, .int .i64 0, .int .i64 0, .int .i64 0, .int .i64 0] 60)).setRow w6.heap.size #[.int .i64 1, .int .i64 0, .int .i64 0, .int .i64 0, .int .i64 0])
  have hsr := setRow_heap (w6.alloc (.cells #[.int .i64 0, .int .i64 0, .int .i64 0, .int .i64 0, .int .i64 0] 60)) w6.heap.size #[.int .i64 0, .int .i64 0, .int .i64 0, .int .i64 0, .int .i64 0] #[.int .i64 1, .int .i64 0, .int .i64 0, .int .i64 0, .int .i64 0] 60 (0, 0) (blk_new w6 _)
  have hbs := below_setRow (below_alloc (Below.refl w6.heap.size w6) (.cells #[.int .i64 0, .int .i64 0, .int .i64 0, .int .i64 0, .int .i64 0] 60)) (Nat.le_refl _) #[.int .i64 1, .int .i64 0, .int .i64 0, .int .i64 0, .int .i64 0]
  have HB7 := Aside0.mk (show w.heap.size < w6.heap.size ∧ b4 < w6.heap.size from ⟨blk_lt HX6.out, blk_lt HY6.out⟩)
  generalize (w6.alloc (.cells #[.int .i64 0, .int .i64 0, .int .i64 0, .int .i64 0, .int .i64 0] 60)).setRow w6.heap.size #[.int .i64 1, .int .i64 0, .int .i64 0, .int .i64 0, .int .i64 0] = w7 at hsr hbs ⊢
  have HD7 := Aside0.mk (show DI w b4 w6.heap.size gu cu gv cv R (uvS R 0).1 (uvS R 0).2 z4 w7 from ⟨box_later HX6.out hbs, box_later HY6.out hbs, hsr, HU6.out.kept (grown_of_below hbs none) (by cases Value.ownBlock _ <;> simp), HV7.out.kept (grown_of_below hbs none) (by cases Value.ownBlock _ <;> simp), HGN.out, below_step HB6.out hbs, HB7.out.1⟩)
  generalize w6.heap.size = b7 at HD7 HB7 ⊢
  clear hsr hbs HX6 HY6 HB6 HU6 HV7 HGN
  go_loopg [5, 6, 8, 9, 10, 11, 23, 24, 25, 26, 27, 28, 29, 30, 31, 32, 33, 34, 35, 36, 37, 38, 39, 40, 41, 42, 43, 44, 45, 46, 47, 48, 49, 50, 51, 52, 53, 54, 55, 56, 57, 58, 59, 60, 61, 62, 63, 64, 65, 66, 67, 68, 69, 70, 71, 72, 73, 74, 75, 76, 77, 78, 79, 80, 81, 82, 83, 84, 85, 86, 87, 88, 89, 90, 91, 92, 93, 94, 95, 96] 4 (fun kq v5 v6 v8 v9 v10 v11 v23 v24 v25 v26 v27 v28 v29 v30 v31 v32 v33 v34 v35 v36 v37 v38 v39 v40 v41 v42 v43 v44 v45 v46 v47 v48 v49 v50 v51 v52 v53 v54 v55 v56 v57 v58 v59 v60 v61 v62 v63 v64 v65 v66 v67 v68 v69 v70 v71 v72 v73 v74 v75 v76 v77 v78 v79 v80 v81 v82 v83 v84 v85 v86 v87 v88 v89 v90 v91 v92 v93 v94 v95 v96 wx => ∃ m : Nat, v23 = .int .i64 (m : Int) ∧ v5 = .slice (some ⟨gu, 0, none⟩) (4 - m) cu ∧ v6 = .slice (some ⟨gv, 0, none⟩) (4 - m + m / 4) cv ∧ Aside0 (kq + m = 4) ∧ Aside0 (DI w b4 b7 gu cu gv cv R (uvS R m).1 (uvS R m).2 ((idxS R).take m ++ z4.drop m) wx))
  case atStart => exact ⟨0, rfl, rfl, rfl, ⟨rfl⟩, HD7⟩
  case round =>
    clear HD7
    obtain ⟨m, rfl, rfl, rfl, HG, HD⟩ := hrel
    by_cases hm : m < 4
    · rw [show 4 - m + m / 4 = 4 - m from by omega]
      have hm0 : (0 : Int) ≤ m := by omega
      have hm4 : (m : Int) < 4 := by omega
      have hUV := HUV.out m
      have hUL := HUL.out m
      have hks := show kS R m = kV (uvS R m).1 (uvS R m).2 from rfl
      have hsn1 := show (uvS R (m + 1)).1 = uL (kV (uvS R m).1 (uvS R m).2) (uvS R m).1 (uvS R m).2 (4 - m) from rfl
      have hsn2 := show (uvS R (m + 1)).2 = vL (kV (uvS R m).1 (uvS R m).2) (uvS R m).1 (uvS R m).2 (4 - m) from rfl
      have hB : (137438953472 : Int) * 2 ^ m ≤ 1099511627776 := by
        have hc : m = 0 ∨ m = 1 ∨ m = 2 ∨ m = 3 := by omega
        rcases hc with rfl | rfl | rfl | rfl <;> decide
      have hidx := idxS_at R hm
      have hil : ((idxS R).take m ++ z4.drop m).length = 4 := by rw [List.length_append, List.length_take, List.length_drop, idxS_length]; show min m 4 + (4 - m) = 4; omega
      have HIM := Aside0.mk (mix_set hm (idxS_length R) (rfl : z4.length = 4))
      rw [hks] at hidx
      generalize (uvS R m).1 = U at HD hUV hUL hidx hsn1 hsn2
      generalize (uvS R m).2 = V at HD hUV hUL hidx hsn1 hsn2
      generalize (137438953472 : Int) * 2 ^ m = B at hUV hB
      have HUN := Aside0.mk (fun j => And.intro (hUV.1 j) (hUV.2 j))
      have HU4 := Aside0.mk hUL.1
      have HV4 := Aside0.mk hUL.2
      have HBL := Aside0.mk hB
      have HS1 := Aside0.mk hsn1
      have HS2 := Aside0.mk hsn2
      have HMM := Aside0.mk hm
      have HIDX := Aside0.mk hidx
      have HIL := Aside0.mk hil
      obtain ⟨II, hII⟩ : ∃ II, II = (idxS R).take m ++ z4.drop m := ⟨_, rfl⟩
      rw [← hII] at HD HIM HIL
      obtain ⟨n, hn⟩ : ∃ n, n = 4 - m := ⟨_, rfl⟩
      rw [← hn] at HS1 HS2 ⊢
      have HNM := Aside0.mk hn
      have hn1 : 0 < n := by omega
      have hn4 : n ≤ 4 := by omega
      have hn0 : (0 : Int) < (n : Int) := by omega
      have HNN := Aside0.mk (And.intro hn1 hn4)
      have hu0 := HD.out.uat HU4.out (j := 0) (by decide)
      have hv0 := HD.out.vat HV4.out (j := 0) (by decide)
      have HKV := Aside0.mk (show kV U V = if V.getD 0 0 > 0 then Go.Proofs.Ytblehkoonajofaa.Num.clip (Int.tdiv (-(U.getD 0 0) * 32768) (V.getD 0 0)) (-32767) 32767 else 0 from rfl)
      have HKI := Aside0.mk (kV_in U V)
      have hb0 := HUN.out 0
      generalize U.getD 0 0 = u0 at hu0 HKV hb0
      generalize V.getD 0 0 = v0 at hv0 HKV hb0
      obtain ⟨k, hk⟩ : ∃ k, k = kV U V := ⟨_, rfl⟩
      rw [← hk] at HKV HKI HS1 HS2 HIDX
      obtain ⟨gO, rfl⟩ : ∃ gO, gk = gO + 1 := ⟨gk - 1, by have := HG.out; omega⟩
      clear hUV hUL hks hsn1 hsn2 hB hidx hil hn hII hk hm hn4
      by_cases hv0p : v0 > 0
      · have hk2 := HKV.out
        rw [if_pos hv0p] at hk2
        have hnu : IntKind.i64.wrap (-u0) = -u0 := by rw [i64_w]; unfold wrap64; have := HBL.out; omega
        have hmu : IntKind.i64.wrap (-u0 * 32768) = -u0 * 32768 := by rw [i64_w]; unfold wrap64; have := HBL.out; omega
        have hv0n : v0 ≠ 0 := by omega
        have hv0b : (v0 == 0) = false := by simp [hv0n]
        obtain ⟨Dq, hDq⟩ : ∃ Dq, Dq = Int.tdiv (-u0 * 32768) v0 := ⟨_, rfl⟩
        rw [← hDq] at hk2
        have hdq := hDq.symm
        have hdr : -9223372036854775808 ≤ Dq ∧ Dq ≤ 9223372036854775807 := by
          have h1 : Dq.natAbs ≤ (-u0 * 32768).natAbs := by rw [hDq, Int.natAbs_tdiv]; exact Nat.div_le_self _ _
          have := HBL.out; omega
        have hdw : IntKind.i64.wrap Dq = Dq := by rw [i64_w]; unfold wrap64; omega
        have HCL := Aside0.mk (show fix_Clip.f Dq (-32767) 32767 = some k from by rw [hk2]; exact Go.Proofs.Ytblehkoonajofaa.FixBaseTns.Clip_eq _ _ _)
        clear hk2 hDq hdr hb0
        go_wp2
        have hud : wr.drew.cell? ⟨gu, 0, none⟩ = some (.int .i64 u0) := hu0
        have hvd : wr.drew.cell? ⟨gv, 0, none⟩ = some (.int .i64 v0) := hv0
        have HDd := Aside0.mk (HD.out.later (below_drew (Below.refl wr.heap.size wr)))
        go_region_held3 (fun W => W.cell? ⟨gu, 0, none⟩ = some (.int .i64 u0) ∧ W.cell? ⟨gv, 0, none⟩ = some (.int .i64 v0)) (first | exact ⟨hu0, hv0⟩ | exact ⟨hud, hvd⟩ | exact ⟨hu3, hv3⟩)
          (first | (go_at_call 60; refine (fix_Clip.calls Dq (-32767) 32767 k _ HCL.out).mono ?_; rintro e w8 ⟨rfl, hb_⟩; obtain ⟨q8, hq8⟩ := hb_.out; have hu3 : w8.cell? ⟨gu, 0, none⟩ = some (.int .i64 u0) := (by rw [hq8]; exact hud); have hv3 : w8.cell? ⟨gv, 0, none⟩ = some (.int .i64 v0) := (by rw [hq8]; exact hvd); have HD8 := Aside0.mk (HDd.out.later (show Below wr.drew.heap.size wr.drew w8 from (by rw [hq8]; exact pw_below_drewN (Below.refl _ _) _))); clear hb_ hq8))
        clear hu0 hv0 hud hvd hu3 hv3 hnu hmu hdq hdw
        try clear hHeld
        have HNE4 := Aside0.mk (show b4 ≠ b7 from by have := HB7.out; omega)
        go_wp2_with (first | (go_at_call 68; refine (tns_nearest.calls (k) (by have := HKI.out; omega) _).mono ?_; rintro e w9 ⟨rfl, hb_⟩; have HD9 := Aside0.mk (HD8.out.later hb_); have hoc9 : w9.cell? ⟨b7, 1 + m, none⟩ = some (.int .i64 (II.getD m 0)) := (by rw [blk_cell HD9.out.f, Nat.add_comm]; exact cons_at (by rw [HIL.out]; exact HMM.out)); have hof9 : w9.frozen? ⟨b7, 1 + m, none⟩ = false := blk_frozen HD9.out.f _; clear hb_))
        have HDA := Aside0.mk (HD9.out.setF HNE4.out m ((nearUpto (k) 17 : Nat) : Int))
        rw [← HIDX.out, HIM.out, HIDX.out] at HDA
        clear hoc9 hof9
        generalize w9.setCell ⟨b7, 1 + m, none⟩ (.int .i64 ((nearUpto (k) 17 : Nat) : Int)) = wA at HDA ⊢
        obtain ⟨IN, hIN⟩ : ∃ IN, IN = (idxS R).take (m + 1) ++ z4.drop (m + 1) := ⟨_, rfl⟩
        rw [← hIN] at HDA
        have HIN := Aside0.mk hIN
        have HUA := Aside0.mk (fun j (hj : j < 4) => uL_at (k) U V n hj)
        have HVA := Aside0.mk (fun j (hj : j < 4) => vL_at (k) U V n hj)
        have HULL := Aside0.mk (uL_length (k) U V n)
        have HVLL := Aside0.mk (vL_length (k) U V n)
        obtain ⟨UL, hUL⟩ : ∃ UL, UL = uL (k) U V n := ⟨_, rfl⟩
        obtain ⟨VL, hVL⟩ : ∃ VL, VL = vL (k) U V n := ⟨_, rfl⟩
        rw [← hUL] at HUA HULL HS1
        rw [← hVL] at HVA HVLL HS2
        clear hUL hVL hIN
        go_loopg [10, 11, 47, 48, 49, 50, 51, 52, 53, 54, 55, 56, 57, 58, 59, 60, 61, 62, 63, 64, 65, 66, 67, 68, 69, 70, 71, 72, 73, 74, 75, 76, 77, 78, 79, 80, 81, 82, 83, 84] n (fun kq v10 v11 v47 v48 v49 v50 v51 v52 v53 v54 v55 v56 v57 v58 v59 v60 v61 v62 v63 v64 v65 v66 v67 v68 v69 v70 v71 v72 v73 v74 v75 v76 v77 v78 v79 v80 v81 v82 v83 v84 wx => ∃ j : Nat, v47 = .int .i64 (j : Int) ∧ Aside0 (kq + j = n) ∧ Aside0 (DI w b4 b7 gu cu gv cv R (UL.take j ++ U.drop j) (VL.take j ++ V.drop j) IN wx))
        case atStart => exact ⟨0, rfl, ⟨rfl⟩, ⟨HDA.out⟩⟩
        case round =>
          clear HDA
          obtain ⟨j, rfl, HG2, HD⟩ := hrel
          have hUm : (UL.take j ++ U.drop j).length = 4 := by rw [List.length_append, List.length_take, List.length_drop, HULL.out, HU4.out]; have := HG2.out; have := HNN.out; omega
          have hVm : (VL.take j ++ V.drop j).length = 4 := by rw [List.length_append, List.length_take, List.length_drop, HVLL.out, HV4.out]; have := HG2.out; have := HNN.out; omega
          by_cases hj : j < n
          · have hj4 : j < 4 := by have := HNN.out; omega
            have hj0 : (0 : Int) ≤ j := by omega
            have hjn : (j : Int) < (n : Int) := by omega
            have huj := HD.out.uat hUm hj4
            have hvj := HD.out.vat hVm hj4
            rw [mix_at hj4 HULL.out HU4.out] at huj
            rw [mix_at hj4 HVLL.out HV4.out] at hvj
            have hbj := HUN.out j
            have hua := HUA.out j hj4
            have hva := HVA.out j hj4
            unfold uNew at hua
            unfold vNew at hva
            rw [if_pos hj] at hva
            have hBn : 0 ≤ B := by omega
            have hr2 := rnd15_in HKI.out hBn hbj.1
            have hwj : IntKind.i64.wrap ((j : Int) + 1) = ((j + 1 : Nat) : Int) := by rw [i64_w]; unfold wrap64; have := HNN.out; omega
            obtain ⟨uj, huje⟩ : ∃ uj, uj = U.getD j 0 := ⟨_, rfl⟩
            obtain ⟨vj, hvje⟩ : ∃ vj, vj = V.getD j 0 := ⟨_, rfl⟩
            rw [← huje] at huj hua hva hr2 hbj
            rw [← hvje] at hvj hva hbj
            have hp2 := Go.Proofs.Ytblehkoonajofaa.Num.mul_abs (a := (k)) (b := uj) (A := 32767) (B := B) (by have := HKI.out; omega) (by have := HKI.out; omega) hbj.1.1 hbj.1.2
            obtain ⟨P2, hP2⟩ : ∃ P2, P2 = (k) * uj := ⟨_, rfl⟩
            rw [← hP2] at hva hr2 hp2
            have hpw2 : IntKind.i64.wrap ((k) * uj) = P2 := by rw [← hP2, i64_w]; unfold wrap64; have := HBL.out; omega
            have HR2 := Aside0.mk (show fix_Round.f P2 15 = some (Go.Proofs.Ytblehkoonajofaa.Num.rnd P2 15) from Go.Proofs.Ytblehkoonajofaa.FixBaseTns.Round_eq 15 (by have := HBL.out; omega) (by have := HBL.out; omega))
            obtain ⟨R2, hR2⟩ : ∃ R2, R2 = Go.Proofs.Ytblehkoonajofaa.Num.rnd P2 15 := ⟨_, rfl⟩
            rw [← hR2] at hva hr2 HR2
            have hsw2 : IntKind.i64.wrap (vj + R2) = vj + R2 := by rw [i64_w]; unfold wrap64; have := HBL.out; omega
            have HVA2 := Aside0.mk hva
            have HJJ := Aside0.mk (And.intro hj hj4)
            have HHUM := Aside0.mk hUm; have HHVM := Aside0.mk hVm
            obtain ⟨g0, rfl⟩ : ∃ g0, gk = g0 + 1 := ⟨gk - 1, by have := HG2.out; omega⟩
            have huje' := huje.symm
            clear hva hr2 hp2 hP2 hR2 hUm hVm
            by_cases hj1 : j + 1 < n
            · have hj1n : ((j + 1 : Nat) : Int) < (n : Int) := by omega
              have hj1n' : (j : Int) + 1 < (n : Int) := by omega
              have hj10 : (0 : Int) ≤ ((j + 1 : Nat) : Int) := by omega
              have hj11 : (0 : Int) ≤ (j : Int) + 1 := by omega
              have ht1 : ((j : Int) + 1).toNat = j + 1 := by omega
              have hu1 := HD.out.uat HHUM.out (j := j + 1) (by have := HNN.out; omega)
              have hv1 := HD.out.vat HHVM.out (j := j + 1) (by have := HNN.out; omega)
              rw [mix_after (n := 4) (by omega) (by have := HNN.out; omega) HULL.out HU4.out] at hu1
              rw [mix_after (n := 4) (by omega) (by have := HNN.out; omega) HVLL.out HV4.out] at hv1
              rw [if_pos hj1] at hua
              have hb1 := HUN.out (j + 1)
              have hr1 := rnd15_in HKI.out hBn hb1.2
              generalize U.getD (j + 1) 0 = u1 at hu1 hua hb1
              generalize V.getD (j + 1) 0 = v1 at hv1 hua hb1 hr1
              have hp1 := Go.Proofs.Ytblehkoonajofaa.Num.mul_abs (a := (k)) (b := v1) (A := 32767) (B := B) (by have := HKI.out; omega) (by have := HKI.out; omega) hb1.2.1 hb1.2.2
              obtain ⟨P1, hP1⟩ : ∃ P1, P1 = (k) * v1 := ⟨_, rfl⟩
              rw [← hP1] at hua hr1 hp1
              have hpw1 : IntKind.i64.wrap ((k) * v1) = P1 := by rw [← hP1, i64_w]; unfold wrap64; have := HBL.out; omega
              have HR1 := Aside0.mk (show fix_Round.f P1 15 = some (Go.Proofs.Ytblehkoonajofaa.Num.rnd P1 15) from Go.Proofs.Ytblehkoonajofaa.FixBaseTns.Round_eq 15 (by have := HBL.out; omega) (by have := HBL.out; omega))
              obtain ⟨R1, hR1⟩ : ∃ R1, R1 = Go.Proofs.Ytblehkoonajofaa.Num.rnd P1 15 := ⟨_, rfl⟩
              rw [← hR1] at hua hr1 HR1
              have hsw1 : IntKind.i64.wrap (u1 + R1) = u1 + R1 := by rw [i64_w]; unfold wrap64; have := HBL.out; omega
              have HUA2 := Aside0.mk hua
              clear hua hr1 hp1 hP1 hR1 hb1 hj1 huje huje' hvje
              go_wp2
              have HDd := Aside0.mk (HD.out.later (below_drew (Below.refl wr.heap.size wr)))
              have hu1d : wr.drew.cell? ⟨gu, j + 1, none⟩ = some (.int .i64 u1) := hu1
              have hv1d : wr.drew.cell? ⟨gv, j + 1, none⟩ = some (.int .i64 v1) := hv1
              have huo : wr.drew.cell? ⟨gu, j, none⟩ = some (.int .i64 uj) := huj
              have hf1 : ∀ W : World, W.cell? ⟨gu, j + 1, none⟩ = some (.int .i64 u1) → (W.setCell ⟨gu, j, none⟩ (.int .i64 (u1 + R1))).cell? ⟨gu, j + 1, none⟩ = some (.int .i64 u1) := fun W h => by rw [cell_near W (by omega)]; exact h
              have hf2 : ∀ W : World, W.cell? ⟨gv, j + 1, none⟩ = some (.int .i64 v1) → (W.setCell ⟨gu, j, none⟩ (.int .i64 (u1 + R1))).cell? ⟨gv, j + 1, none⟩ = some (.int .i64 v1) := fun W h => by rw [cell_far W (Ne.symm HD.out.ne)]; exact h
              go_region_held3 (fun W => W.cell? ⟨gu, j + 1, none⟩ = some (.int .i64 u1) ∧ W.cell? ⟨gv, j + 1, none⟩ = some (.int .i64 v1)) (first | exact ⟨hu1, hv1⟩ | exact ⟨hu1d, hv1d⟩ | exact ⟨hu1a, hv1a⟩ | exact ⟨hf1 _ hu1a, hf2 _ hv1a⟩)
                (first | (go_at_call 54; refine (fix_Round.calls P1 15 R1 _ HR1.out).mono ?_; rintro e wB ⟨rfl, hb_⟩; obtain ⟨q8, hq8⟩ := hb_.out; have hu1a : wB.cell? ⟨gu, j + 1, none⟩ = some (.int .i64 u1) := (by rw [hq8]; exact hu1d); have hv1a : wB.cell? ⟨gv, j + 1, none⟩ = some (.int .i64 v1) := (by rw [hq8]; exact hv1d); have huoa : wB.cell? ⟨gu, j, none⟩ = some (.int .i64 uj) := (by rw [hq8]; exact huo); have HDB := Aside0.mk (HDd.out.later (show Below wr.drew.heap.size wr.drew wB from (by rw [hq8]; exact pw_below_drewN (Below.refl _ _) _))); have hofa : wB.frozen? ⟨gu, j, none⟩ = false := HDB.out.u.frozenAt j; have hvja : wB.cell? ⟨gv, j, none⟩ = some (.int .i64 vj) := (by rw [hq8]; exact hvj); clear hb_ hq8))
              have HDC := Aside0.mk (HDB.out.setU j (u1 + R1))
              rw [← HUA2.out, mix_set HJJ.out.2 HULL.out HU4.out, HUA2.out] at HDC
              have hvjc : (wB.setCell ⟨gu, j, none⟩ (.int .i64 (u1 + R1))).cell? ⟨gv, j, none⟩ = some (.int .i64 vj) := by rw [cell_far wB (Ne.symm HD.out.ne)]; exact hvja
              clear hu1 hv1 hu1d hv1d huo hf1 hf2 hu1a hv1a huoa hofa hvja huj hvj hpw1 hsw1
              try clear hHeld
              generalize wB.setCell ⟨gu, j, none⟩ (.int .i64 (u1 + R1)) = wC at HDC hvjc ⊢
              go_wp2
              have HDd := Aside0.mk (HDC.out.later (below_drew (Below.refl wC.heap.size wC)))
              have hvd : wC.drew.cell? ⟨gv, j, none⟩ = some (.int .i64 vj) := hvjc
              go_region_with (first | (go_at_call 54; refine (fix_Round.calls P2 15 R2 _ HR2.out).mono ?_; rintro e wE ⟨rfl, hb_⟩; obtain ⟨q8, hq8⟩ := hb_.out; have hve : wE.cell? ⟨gv, j, none⟩ = some (.int .i64 vj) := (by rw [hq8]; exact hvd); have HDE := Aside0.mk (HDd.out.later (show Below wC.drew.heap.size wC.drew wE from (by rw [hq8]; exact pw_below_drewN (Below.refl _ _) _))); have hofe : wE.frozen? ⟨gv, j, none⟩ = false := HDE.out.v.frozenAt j; clear hb_ hq8))
              all_goals
                have HDF := Aside0.mk (HDE.out.setV j (vj + R2))
                rw [← HVA2.out, mix_set HJJ.out.2 HVLL.out HV4.out, HVA2.out] at HDF
                go_wp2
                go_roundg g0
                case measure => omega
                case rel => exact ⟨j + 1, by first | rfl | (congr 1; push_cast; rfl), ⟨by have := HG2.out; omega⟩, HDF⟩
            · have hj1n' : ¬ ((j : Int) + 1 < (n : Int)) := by omega
              have hj1n : ¬ (((j + 1 : Nat) : Int) < (n : Int)) := by omega
              rw [if_neg hj1] at hua
              have HDC := Aside0.mk (show DI w b4 b7 gu cu gv cv R (UL.take (j + 1) ++ U.drop (j + 1)) (VL.take j ++ V.drop j) IN wr from by
                rw [← mix_set hj4 HULL.out HU4.out, hua, set_same (by rw [HHUM.out]; exact hj4) (by rw [mix_at hj4 HULL.out HU4.out]; exact huje.symm)]
                exact HD.out)
              have hvjc : wr.cell? ⟨gv, j, none⟩ = some (.int .i64 vj) := hvj
              clear hua hj1 huje huje' hvje
              obtain ⟨wC, hwC⟩ : ∃ wC, wC = wr := ⟨_, rfl⟩
              subst hwC
              go_wp2
              have HDd := Aside0.mk (HDC.out.later (below_drew (Below.refl wC.heap.size wC)))
              have hvd : wC.drew.cell? ⟨gv, j, none⟩ = some (.int .i64 vj) := hvjc
              go_region_with (first | (go_at_call 54; refine (fix_Round.calls P2 15 R2 _ HR2.out).mono ?_; rintro e wE ⟨rfl, hb_⟩; obtain ⟨q8, hq8⟩ := hb_.out; have hve : wE.cell? ⟨gv, j, none⟩ = some (.int .i64 vj) := (by rw [hq8]; exact hvd); have HDE := Aside0.mk (HDd.out.later (show Below wC.drew.heap.size wC.drew wE from (by rw [hq8]; exact pw_below_drewN (Below.refl _ _) _))); have hofe : wE.frozen? ⟨gv, j, none⟩ = false := HDE.out.v.frozenAt j; clear hb_ hq8))
              all_goals
                have HDF := Aside0.mk (HDE.out.setV j (vj + R2))
                rw [← HVA2.out, mix_set HJJ.out.2 HVLL.out HV4.out, HVA2.out] at HDF
                go_wp2
                go_roundg g0
                case measure => omega
                case rel => exact ⟨j + 1, by first | rfl | (congr 1; push_cast; rfl), ⟨by have := HG2.out; omega⟩, HDF⟩
          · have hje : j = n := by have := HG2.out; omega
            rw [hje] at HD
            have hjn' : ¬ ((j : Int) < (n : Int)) := by omega
            have HDZ := Aside0.mk (show DI w b4 b7 gu cu gv cv R UL VL IN wr from by
              have h1 := HD.out
              rw [mix_full HULL.out HU4.out (fun i h1 h2 => by rw [HUA.out i h2]; unfold uNew; rw [if_neg (by omega)]), mix_full HVLL.out HV4.out (fun i h1 h2 => by rw [HVA.out i h2]; unfold vNew; rw [if_neg (by omega)])] at h1
              exact h1)
            obtain ⟨nv, hnv⟩ : ∃ nv, nv = 4 - (m + 1) + (m + 1) / 4 := ⟨_, rfl⟩
            have hnb : nv ≤ n ∧ ((nv = 1 ∧ n = 1) ∨ (nv = n - 1 ∧ 1 < n)) := by have := HNM.out; have := HMM.out; omega
            have hw1 : IntKind.i64.wrap ((n : Int) - 1) = ((n - 1 : Nat) : Int) := by rw [i64_w]; unfold wrap64; have := HNN.out; omega
            have hmx : (if ((n - 1 : Nat) : Int) < 1 then (1 : Int) else ((n - 1 : Nat) : Int)) = (nv : Int) := by split <;> omega
            have hc1 := cut_hi gu n cu (by have := HCU.out; have := HNN.out; omega) (n - 1) (by omega)
            have hc2 := cut_hi gv n cv (by have := HCV.out; have := HNN.out; omega) nv (by omega)
            have hwm : IntKind.i64.wrap ((m : Int) + 1) = ((m + 1 : Nat) : Int) := by rw [i64_w]; unfold wrap64; have := HMM.out; omega
            have HNV := Aside0.mk hnv
            clear hje hj hUm hVm hnb hnv
            go_wp2
            go_region_held3 (fun _ => True) (trivial) (fail)
            have HDY := Aside0.mk (HDZ.out.later (below_drew (Below.refl wr.heap.size wr)))
            clear hc1 hc2 hmx hw1
            go_wp2
            go_roundg gO
            case measure => omega
            case rel => exact ⟨m + 1, by first | rfl | (congr 1; push_cast; rfl), by rw [show 4 - (m + 1) = n - 1 from by have := HNM.out; omega], by rw [← HNV.out], ⟨by have := HG.out; omega⟩, ⟨by rw [HS1.out, HS2.out, ← HIN.out]; exact HDY.out⟩⟩
      · have hk2 := HKV.out
        rw [if_neg hv0p] at hk2
        have HK2 := Aside0.mk hk2
        clear hk2 hb0
        go_wp2_with (fail)
        rw [show (Value.int .i64 0) = Value.int .i64 k from by rw [HK2.out]]
        clear hu0 hv0
        have HNE4 := Aside0.mk (show b4 ≠ b7 from by have := HB7.out; omega)
        (refine (tns_nearest.calls (k) (by have := HKI.out; omega) _).mono ?_; rintro e w9 ⟨rfl, hb_⟩; have HD9 := Aside0.mk (HD.out.later hb_); have hoc9 : w9.cell? ⟨b7, 1 + m, none⟩ = some (.int .i64 (II.getD m 0)) := (by rw [blk_cell HD9.out.f, Nat.add_comm]; exact cons_at (by rw [HIL.out]; exact HMM.out)); have hof9 : w9.frozen? ⟨b7, 1 + m, none⟩ = false := blk_frozen HD9.out.f _; clear hb_)
        go_wp2
        have HDA := Aside0.mk (HD9.out.setF HNE4.out m ((nearUpto (k) 17 : Nat) : Int))
        rw [← HIDX.out, HIM.out, HIDX.out] at HDA
        clear hoc9 hof9
        generalize w9.setCell ⟨b7, 1 + m, none⟩ (.int .i64 ((nearUpto (k) 17 : Nat) : Int)) = wA at HDA ⊢
        obtain ⟨IN, hIN⟩ : ∃ IN, IN = (idxS R).take (m + 1) ++ z4.drop (m + 1) := ⟨_, rfl⟩
        rw [← hIN] at HDA
        have HIN := Aside0.mk hIN
        have HUA := Aside0.mk (fun j (hj : j < 4) => uL_at (k) U V n hj)
        have HVA := Aside0.mk (fun j (hj : j < 4) => vL_at (k) U V n hj)
        have HULL := Aside0.mk (uL_length (k) U V n)
        have HVLL := Aside0.mk (vL_length (k) U V n)
        obtain ⟨UL, hUL⟩ : ∃ UL, UL = uL (k) U V n := ⟨_, rfl⟩
        obtain ⟨VL, hVL⟩ : ∃ VL, VL = vL (k) U V n := ⟨_, rfl⟩
        rw [← hUL] at HUA HULL HS1
        rw [← hVL] at HVA HVLL HS2
        clear hUL hVL hIN
        go_loopg [10, 11, 47, 48, 49, 50, 51, 52, 53, 54, 55, 56, 57, 58, 59, 60, 61, 62, 63, 64, 65, 66, 67, 68, 69, 70, 71, 72, 73, 74, 75, 76, 77, 78, 79, 80, 81, 82, 83, 84] n (fun kq v10 v11 v47 v48 v49 v50 v51 v52 v53 v54 v55 v56 v57 v58 v59 v60 v61 v62 v63 v64 v65 v66 v67 v68 v69 v70 v71 v72 v73 v74 v75 v76 v77 v78 v79 v80 v81 v82 v83 v84 wx => ∃ j : Nat, v47 = .int .i64 (j : Int) ∧ Aside0 (kq + j = n) ∧ Aside0 (DI w b4 b7 gu cu gv cv R (UL.take j ++ U.drop j) (VL.take j ++ V.drop j) IN wx))
        case atStart => exact ⟨0, rfl, ⟨rfl⟩, ⟨HDA.out⟩⟩
        case round =>
          clear HDA
          obtain ⟨j, rfl, HG2, HD⟩ := hrel
          have hUm : (UL.take j ++ U.drop j).length = 4 := by rw [List.length_append, List.length_take, List.length_drop, HULL.out, HU4.out]; have := HG2.out; have := HNN.out; omega
          have hVm : (VL.take j ++ V.drop j).length = 4 := by rw [List.length_append, List.length_take, List.length_drop, HVLL.out, HV4.out]; have := HG2.out; have := HNN.out; omega
          by_cases hj : j < n
          · have hj4 : j < 4 := by have := HNN.out; omega
            have hj0 : (0 : Int) ≤ j := by omega
            have hjn : (j : Int) < (n : Int) := by omega
            have huj := HD.out.uat hUm hj4
            have hvj := HD.out.vat hVm hj4
            rw [mix_at hj4 HULL.out HU4.out] at huj
            rw [mix_at hj4 HVLL.out HV4.out] at hvj
            have hbj := HUN.out j
            have hua := HUA.out j hj4
            have hva := HVA.out j hj4
            unfold uNew at hua
            unfold vNew at hva
            rw [if_pos hj] at hva
            have hBn : 0 ≤ B := by omega
            have hr2 := rnd15_in HKI.out hBn hbj.1
            have hwj : IntKind.i64.wrap ((j : Int) + 1) = ((j + 1 : Nat) : Int) := by rw [i64_w]; unfold wrap64; have := HNN.out; omega
            obtain ⟨uj, huje⟩ : ∃ uj, uj = U.getD j 0 := ⟨_, rfl⟩
            obtain ⟨vj, hvje⟩ : ∃ vj, vj = V.getD j 0 := ⟨_, rfl⟩
            rw [← huje] at huj hua hva hr2 hbj
            rw [← hvje] at hvj hva hbj
            have hp2 := Go.Proofs.Ytblehkoonajofaa.Num.mul_abs (a := (k)) (b := uj) (A := 32767) (B := B) (by have := HKI.out; omega) (by have := HKI.out; omega) hbj.1.1 hbj.1.2
            obtain ⟨P2, hP2⟩ : ∃ P2, P2 = (k) * uj := ⟨_, rfl⟩
            rw [← hP2] at hva hr2 hp2
            have hpw2 : IntKind.i64.wrap ((k) * uj) = P2 := by rw [← hP2, i64_w]; unfold wrap64; have := HBL.out; omega
            have HR2 := Aside0.mk (show fix_Round.f P2 15 = some (Go.Proofs.Ytblehkoonajofaa.Num.rnd P2 15) from Go.Proofs.Ytblehkoonajofaa.FixBaseTns.Round_eq 15 (by have := HBL.out; omega) (by have := HBL.out; omega))
            obtain ⟨R2, hR2⟩ : ∃ R2, R2 = Go.Proofs.Ytblehkoonajofaa.Num.rnd P2 15 := ⟨_, rfl⟩
            rw [← hR2] at hva hr2 HR2
            have hsw2 : IntKind.i64.wrap (vj + R2) = vj + R2 := by rw [i64_w]; unfold wrap64; have := HBL.out; omega
            have HVA2 := Aside0.mk hva
            have HJJ := Aside0.mk (And.intro hj hj4)
            have HHUM := Aside0.mk hUm; have HHVM := Aside0.mk hVm
            obtain ⟨g0, rfl⟩ : ∃ g0, gk = g0 + 1 := ⟨gk - 1, by have := HG2.out; omega⟩
            have huje' := huje.symm
            clear hva hr2 hp2 hP2 hR2 hUm hVm
            by_cases hj1 : j + 1 < n
            · have hj1n : ((j + 1 : Nat) : Int) < (n : Int) := by omega
              have hj1n' : (j : Int) + 1 < (n : Int) := by omega
              have hj10 : (0 : Int) ≤ ((j + 1 : Nat) : Int) := by omega
              have hj11 : (0 : Int) ≤ (j : Int) + 1 := by omega
              have ht1 : ((j : Int) + 1).toNat = j + 1 := by omega
              have hu1 := HD.out.uat HHUM.out (j := j + 1) (by have := HNN.out; omega)
              have hv1 := HD.out.vat HHVM.out (j := j + 1) (by have := HNN.out; omega)
              rw [mix_after (n := 4) (by omega) (by have := HNN.out; omega) HULL.out HU4.out] at hu1
              rw [mix_after (n := 4) (by omega) (by have := HNN.out; omega) HVLL.out HV4.out] at hv1
              rw [if_pos hj1] at hua
              have hb1 := HUN.out (j + 1)
              have hr1 := rnd15_in HKI.out hBn hb1.2
              generalize U.getD (j + 1) 0 = u1 at hu1 hua hb1
              generalize V.getD (j + 1) 0 = v1 at hv1 hua hb1 hr1
              have hp1 := Go.Proofs.Ytblehkoonajofaa.Num.mul_abs (a := (k)) (b := v1) (A := 32767) (B := B) (by have := HKI.out; omega) (by have := HKI.out; omega) hb1.2.1 hb1.2.2
              obtain ⟨P1, hP1⟩ : ∃ P1, P1 = (k) * v1 := ⟨_, rfl⟩
              rw [← hP1] at hua hr1 hp1
              have hpw1 : IntKind.i64.wrap ((k) * v1) = P1 := by rw [← hP1, i64_w]; unfold wrap64; have := HBL.out; omega
              have HR1 := Aside0.mk (show fix_Round.f P1 15 = some (Go.Proofs.Ytblehkoonajofaa.Num.rnd P1 15) from Go.Proofs.Ytblehkoonajofaa.FixBaseTns.Round_eq 15 (by have := HBL.out; omega) (by have := HBL.out; omega))
              obtain ⟨R1, hR1⟩ : ∃ R1, R1 = Go.Proofs.Ytblehkoonajofaa.Num.rnd P1 15 := ⟨_, rfl⟩
              rw [← hR1] at hua hr1 HR1
              have hsw1 : IntKind.i64.wrap (u1 + R1) = u1 + R1 := by rw [i64_w]; unfold wrap64; have := HBL.out; omega
              have HUA2 := Aside0.mk hua
              clear hua hr1 hp1 hP1 hR1 hb1 hj1 huje huje' hvje
              go_wp2
              have HDd := Aside0.mk (HD.out.later (below_drew (Below.refl wr.heap.size wr)))
              have hu1d : wr.drew.cell? ⟨gu, j + 1, none⟩ = some (.int .i64 u1) := hu1
              have hv1d : wr.drew.cell? ⟨gv, j + 1, none⟩ = some (.int .i64 v1) := hv1
              have huo : wr.drew.cell? ⟨gu, j, none⟩ = some (.int .i64 uj) := huj
              have hf1 : ∀ W : World, W.cell? ⟨gu, j + 1, none⟩ = some (.int .i64 u1) → (W.setCell ⟨gu, j, none⟩ (.int .i64 (u1 + R1))).cell? ⟨gu, j + 1, none⟩ = some (.int .i64 u1) := fun W h => by rw [cell_near W (by omega)]; exact h
              have hf2 : ∀ W : World, W.cell? ⟨gv, j + 1, none⟩ = some (.int .i64 v1) → (W.setCell ⟨gu, j, none⟩ (.int .i64 (u1 + R1))).cell? ⟨gv, j + 1, none⟩ = some (.int .i64 v1) := fun W h => by rw [cell_far W (Ne.symm HD.out.ne)]; exact h
              go_region_held3 (fun W => W.cell? ⟨gu, j + 1, none⟩ = some (.int .i64 u1) ∧ W.cell? ⟨gv, j + 1, none⟩ = some (.int .i64 v1)) (first | exact ⟨hu1, hv1⟩ | exact ⟨hu1d, hv1d⟩ | exact ⟨hu1a, hv1a⟩ | exact ⟨hf1 _ hu1a, hf2 _ hv1a⟩)
                (first | (go_at_call 54; refine (fix_Round.calls P1 15 R1 _ HR1.out).mono ?_; rintro e wB ⟨rfl, hb_⟩; obtain ⟨q8, hq8⟩ := hb_.out; have hu1a : wB.cell? ⟨gu, j + 1, none⟩ = some (.int .i64 u1) := (by rw [hq8]; exact hu1d); have hv1a : wB.cell? ⟨gv, j + 1, none⟩ = some (.int .i64 v1) := (by rw [hq8]; exact hv1d); have huoa : wB.cell? ⟨gu, j, none⟩ = some (.int .i64 uj) := (by rw [hq8]; exact huo); have HDB := Aside0.mk (HDd.out.later (show Below wr.drew.heap.size wr.drew wB from (by rw [hq8]; exact pw_below_drewN (Below.refl _ _) _))); have hofa : wB.frozen? ⟨gu, j, none⟩ = false := HDB.out.u.frozenAt j; have hvja : wB.cell? ⟨gv, j, none⟩ = some (.int .i64 vj) := (by rw [hq8]; exact hvj); clear hb_ hq8))
              have HDC := Aside0.mk (HDB.out.setU j (u1 + R1))
              rw [← HUA2.out, mix_set HJJ.out.2 HULL.out HU4.out, HUA2.out] at HDC
              have hvjc : (wB.setCell ⟨gu, j, none⟩ (.int .i64 (u1 + R1))).cell? ⟨gv, j, none⟩ = some (.int .i64 vj) := by rw [cell_far wB (Ne.symm HD.out.ne)]; exact hvja
              clear hu1 hv1 hu1d hv1d huo hf1 hf2 hu1a hv1a huoa hofa hvja huj hvj hpw1 hsw1
              try clear hHeld
              generalize wB.setCell ⟨gu, j, none⟩ (.int .i64 (u1 + R1)) = wC at HDC hvjc ⊢
              go_wp2
              have HDd := Aside0.mk (HDC.out.later (below_drew (Below.refl wC.heap.size wC)))
              have hvd : wC.drew.cell? ⟨gv, j, none⟩ = some (.int .i64 vj) := hvjc
              go_region_with (first | (go_at_call 54; refine (fix_Round.calls P2 15 R2 _ HR2.out).mono ?_; rintro e wE ⟨rfl, hb_⟩; obtain ⟨q8, hq8⟩ := hb_.out; have hve : wE.cell? ⟨gv, j, none⟩ = some (.int .i64 vj) := (by rw [hq8]; exact hvd); have HDE := Aside0.mk (HDd.out.later (show Below wC.drew.heap.size wC.drew wE from (by rw [hq8]; exact pw_below_drewN (Below.refl _ _) _))); have hofe : wE.frozen? ⟨gv, j, none⟩ = false := HDE.out.v.frozenAt j; clear hb_ hq8))
              all_goals
                have HDF := Aside0.mk (HDE.out.setV j (vj + R2))
                rw [← HVA2.out, mix_set HJJ.out.2 HVLL.out HV4.out, HVA2.out] at HDF
                go_wp2
                go_roundg g0
                case measure => omega
                case rel => exact ⟨j + 1, by first | rfl | (congr 1; push_cast; rfl), ⟨by have := HG2.out; omega⟩, HDF⟩
            · have hj1n' : ¬ ((j : Int) + 1 < (n : Int)) := by omega
              have hj1n : ¬ (((j + 1 : Nat) : Int) < (n : Int)) := by omega
              rw [if_neg hj1] at hua
              have HDC := Aside0.mk (show DI w b4 b7 gu cu gv cv R (UL.take (j + 1) ++ U.drop (j + 1)) (VL.take j ++ V.drop j) IN wr from by
                rw [← mix_set hj4 HULL.out HU4.out, hua, set_same (by rw [HHUM.out]; exact hj4) (by rw [mix_at hj4 HULL.out HU4.out]; exact huje.symm)]
                exact HD.out)
              have hvjc : wr.cell? ⟨gv, j, none⟩ = some (.int .i64 vj) := hvj
              clear hua hj1 huje huje' hvje
              obtain ⟨wC, hwC⟩ : ∃ wC, wC = wr := ⟨_, rfl⟩
              subst hwC
              go_wp2
              have HDd := Aside0.mk (HDC.out.later (below_drew (Below.refl wC.heap.size wC)))
              have hvd : wC.drew.cell? ⟨gv, j, none⟩ = some (.int .i64 vj) := hvjc
              go_region_with (first | (go_at_call 54; refine (fix_Round.calls P2 15 R2 _ HR2.out).mono ?_; rintro e wE ⟨rfl, hb_⟩; obtain ⟨q8, hq8⟩ := hb_.out; have hve : wE.cell? ⟨gv, j, none⟩ = some (.int .i64 vj) := (by rw [hq8]; exact hvd); have HDE := Aside0.mk (HDd.out.later (show Below wC.drew.heap.size wC.drew wE from (by rw [hq8]; exact pw_below_drewN (Below.refl _ _) _))); have hofe : wE.frozen? ⟨gv, j, none⟩ = false := HDE.out.v.frozenAt j; clear hb_ hq8))
              all_goals
                have HDF := Aside0.mk (HDE.out.setV j (vj + R2))
                rw [← HVA2.out, mix_set HJJ.out.2 HVLL.out HV4.out, HVA2.out] at HDF
                go_wp2
                go_roundg g0
                case measure => omega
                case rel => exact ⟨j + 1, by first | rfl | (congr 1; push_cast; rfl), ⟨by have := HG2.out; omega⟩, HDF⟩
          · have hje : j = n := by have := HG2.out; omega
            rw [hje] at HD
            have hjn' : ¬ ((j : Int) < (n : Int)) := by omega
            have HDZ := Aside0.mk (show DI w b4 b7 gu cu gv cv R UL VL IN wr from by
              have h1 := HD.out
              rw [mix_full HULL.out HU4.out (fun i h1 h2 => by rw [HUA.out i h2]; unfold uNew; rw [if_neg (by omega)]), mix_full HVLL.out HV4.out (fun i h1 h2 => by rw [HVA.out i h2]; unfold vNew; rw [if_neg (by omega)])] at h1
              exact h1)
            obtain ⟨nv, hnv⟩ : ∃ nv, nv = 4 - (m + 1) + (m + 1) / 4 := ⟨_, rfl⟩
            have hnb : nv ≤ n ∧ ((nv = 1 ∧ n = 1) ∨ (nv = n - 1 ∧ 1 < n)) := by have := HNM.out; have := HMM.out; omega
            have hw1 : IntKind.i64.wrap ((n : Int) - 1) = ((n - 1 : Nat) : Int) := by rw [i64_w]; unfold wrap64; have := HNN.out; omega
            have hmx : (if ((n - 1 : Nat) : Int) < 1 then (1 : Int) else ((n - 1 : Nat) : Int)) = (nv : Int) := by split <;> omega
            have hc1 := cut_hi gu n cu (by have := HCU.out; have := HNN.out; omega) (n - 1) (by omega)
            have hc2 := cut_hi gv n cv (by have := HCV.out; have := HNN.out; omega) nv (by omega)
            have hwm : IntKind.i64.wrap ((m : Int) + 1) = ((m + 1 : Nat) : Int) := by rw [i64_w]; unfold wrap64; have := HMM.out; omega
            have HNV := Aside0.mk hnv
            clear hje hj hUm hVm hnb hnv
            go_wp2
            go_region_held3 (fun _ => True) (trivial) (fail)
            have HDY := Aside0.mk (HDZ.out.later (below_drew (Below.refl wr.heap.size wr)))
            clear hc1 hc2 hmx hw1
            go_wp2
            rw [show Value.int .i64 k = Value.int .i64 0 from by rw [HK2.out]]
            go_roundg gO
            case measure => omega
            case rel => exact ⟨m + 1, by first | rfl | (congr 1; push_cast; rfl), by rw [show 4 - (m + 1) = n - 1 from by have := HNM.out; omega], by rw [← HNV.out], ⟨by have := HG.out; omega⟩, ⟨by rw [HS1.out, HS2.out, ← HIN.out]; exact HDY.out⟩⟩
    · obtain rfl : m = 4 := by have := HG.out; omega
      clear hm
      rw [show 4 - 4 + 4 / 4 = 1 from rfl, show 4 - 4 = 0 from rfl]
      have HDZ := Aside0.mk (show DI w b4 b7 gu cu gv cv R (uvS R 4).1 (uvS R 4).2 (idxS R) wr from by
        have h1 := HD.out
        rw [show z4.drop 4 = [] from rfl, List.append_nil, List.take_of_length_le (by rw [idxS_length]; exact Nat.le_refl _)] at h1
        exact h1)
      have hr0 := nums_at HDZ.out.r (i := 0) (by rw [HRL.out]; decide)
      have hv0 := HDZ.out.vat (HUL.out 4).2 (j := 0) (by decide)
      have hb := (HUV.out 4).2 0
      have hbr := (HUV.out 0).2 0
      have hrr : (uvS R 0).2.getD 0 0 = R.getD 0 0 := by rw [HRE.out]; rfl
      rw [hrr] at hbr
      have hpw : (137438953472 : Int) * 2 ^ 4 = 2199023255552 := by decide
      have hpw0 : (137438953472 : Int) * 2 ^ 0 = 137438953472 := by decide
      rw [hpw] at hb
      rw [hpw0] at hbr
      have HNB := Aside0.mk (show noneB R = (decide (R.getD 0 0 ≤ 0) || decide (2 * R.getD 0 0 < 3 * (uvS R 4).2.getD 0 0) || decide (idxS R = [8, 8, 8, 8])) from rfl)
      have HFO := Aside0.mk (show findOn R = if noneB R then 0 else 1 from rfl)
      have HFI := Aside0.mk (show findIdx R = if noneB R then z4 else idxS R from rfl)
      generalize R.getD 0 0 = r0 at hr0 hbr HNB
      generalize (uvS R 4).2.getD 0 0 = v0 at hv0 hb HNB
      obtain ⟨i0, i1, i2, i3, hI⟩ := four (idxS_length R)
      have x0 := (blk_cell HDZ.out.f 0).trans (rfl : _ = some (Value.int .i64 1))
      have x1 := (blk_cell HDZ.out.f 1).trans (show _ = some (Value.int .i64 i0) from by rw [hI]; rfl)
      have x2 := (blk_cell HDZ.out.f 2).trans (show _ = some (Value.int .i64 i1) from by rw [hI]; rfl)
      have x3 := (blk_cell HDZ.out.f 3).trans (show _ = some (Value.int .i64 i2) from by rw [hI]; rfl)
      have x4 := (blk_cell HDZ.out.f 4).trans (show _ = some (Value.int .i64 i3) from by rw [hI]; rfl)
      have HII := Aside0.mk hI
      rw [hI] at HNB HFI
      have heq := arr4_eq i0 i1 i2 i3
      have hw2 : IntKind.i64.wrap (2 * r0) = 2 * r0 := by rw [i64_w]; unfold wrap64; omega
      have hw3 : IntKind.i64.wrap (3 * v0) = 3 * v0 := by rw [i64_w]; unfold wrap64; omega
      have hw2' : wrap64 (2 * r0) = 2 * r0 := by unfold wrap64; omega
      have hw3' : wrap64 (3 * v0) = 3 * v0 := by unfold wrap64; omega
      obtain ⟨e8, he8⟩ : ∃ e8, e8 = decide ([i0, i1, i2, i3] = [8, 8, 8, 8]) := ⟨_, rfl⟩
      rw [← he8] at heq HNB
      have y0 : wr.drew.cell? ⟨b7, 0, none⟩ = some (.int .i64 1) := x0
      have y1 : wr.drew.cell? ⟨b7, 1, none⟩ = some (.int .i64 i0) := x1
      have y2 : wr.drew.cell? ⟨b7, 2, none⟩ = some (.int .i64 i1) := x2
      have y3 : wr.drew.cell? ⟨b7, 3, none⟩ = some (.int .i64 i2) := x3
      have y4 : wr.drew.cell? ⟨b7, 4, none⟩ = some (.int .i64 i3) := x4
      have yr : wr.drew.cell? ⟨b4, 0, none⟩ = some (.int .i64 r0) := hr0
      have yv : wr.drew.cell? ⟨gv, 0, none⟩ = some (.int .i64 v0) := hv0
      have HDd := Aside0.mk (HDZ.out.later (below_drew (Below.refl wr.heap.size wr)))
      clear hb hbr hrr hpw hpw0 hI he8
      have hcase : (noneB R = true ∧ ((r0 ≤ 0) ∨ (¬ r0 ≤ 0 ∧ 2 * r0 < 3 * v0) ∨ (¬ r0 ≤ 0 ∧ ¬ 2 * r0 < 3 * v0 ∧ e8 = true))) ∨ (noneB R = false ∧ ¬ r0 ≤ 0 ∧ ¬ 2 * r0 < 3 * v0 ∧ e8 = false) := by
        rw [HNB.out]
        by_cases a : r0 ≤ 0
        · exact .inl ⟨by simp [a], .inl a⟩
        · by_cases b : 2 * r0 < 3 * v0
          · exact .inl ⟨by simp [b], .inr (.inl ⟨a, b⟩)⟩
          · cases e8
            · exact .inr ⟨by simp [a, b], a, b, rfl⟩
            · exact .inl ⟨by simp, .inr (.inr ⟨a, b, rfl⟩)⟩
      rcases hcase with ⟨hnb, hcs⟩ | ⟨hnb, hc1, hc2, rfl⟩
      · have HON := Aside0.mk (show findOn R = 0 from by rw [HFO.out, if_pos hnb])
        have HIX := Aside0.mk (show findIdx R = z4 from by rw [HFI.out, if_pos hnb])
        clear hnb
        rcases hcs with hc1 | ⟨hc1, hc2⟩ | ⟨hc1, hc2, rfl⟩
        all_goals
          go_wp2
          go_quiet (fail)
          have HDq := Aside0.mk (HDZ.out.later (pw_below_drewN (Below.refl wr.heap.size wr) nq))
          clear x0 x1 x2 x3 x4 y0 y1 y2 y3 y4 yr yv hr0 hv0
          generalize wr.drewN nq = wq at HDq ⊢
          have x0 := (blk_cell HDq.out.f 0).trans (rfl : _ = some (Value.int .i64 1))
          have x1 := (blk_cell HDq.out.f 1).trans (show _ = some (Value.int .i64 i0) from by rw [HII.out]; rfl)
          have x2 := (blk_cell HDq.out.f 2).trans (show _ = some (Value.int .i64 i1) from by rw [HII.out]; rfl)
          have x3 := (blk_cell HDq.out.f 3).trans (show _ = some (Value.int .i64 i2) from by rw [HII.out]; rfl)
          have x4 := (blk_cell HDq.out.f 4).trans (show _ = some (Value.int .i64 i3) from by rw [HII.out]; rfl)
          go_wp2_with (first | (refine wpList_store_row rfl 60 _ _ rfl w.heap.size #[.int .i64 0, .int .i64 0, .int .i64 0, .int .i64 0, .int .i64 0] rfl rfl 60 #[.int .i64 0, .int .i64 0, .int .i64 0, .int .i64 0, .int .i64 0] HDq.out.z (by kernel_rfl) (by kernel_rfl) (by kernel_rfl) ?_))
          have hz := setRow_heap wq w.heap.size #[.int .i64 0, .int .i64 0, .int .i64 0, .int .i64 0, .int .i64 0] #[.int .i64 0, .int .i64 0, .int .i64 0, .int .i64 0, .int .i64 0] 60 (0, 0) HDq.out.z
          have HBZ := Aside0.mk (below_setRow HDq.out.be (Nat.le_refl _) #[.int .i64 0, .int .i64 0, .int .i64 0, .int .i64 0, .int .i64 0])
          generalize wq.setRow w.heap.size #[.int .i64 0, .int .i64 0, .int .i64 0, .int .i64 0, .int .i64 0] = wz at hz HBZ ⊢
          have z0 := (blk_cell hz 0).trans rfl; have z1 := (blk_cell hz 1).trans rfl; have z2 := (blk_cell hz 2).trans rfl; have z3 := (blk_cell hz 3).trans rfl; have z4_ := (blk_cell hz 4).trans rfl
          exact bodyPost_ret (v := .tuple #[.agg #[.int .i64 0, .int .i64 0, .int .i64 0, .int .i64 0, .int .i64 0], .int .i64 0]) (by simp [results, Try.results30, go_sem, z0, z1, z2, z3, z4_]) rfl ⟨by rw [HON.out, HIX.out]; rfl, HBZ.out⟩
      · have HON := Aside0.mk (show findOn R = 1 from by rw [HFO.out, if_neg (by rw [hnb]; decide)])
        have HIX := Aside0.mk (show findIdx R = [i0, i1, i2, i3] from by rw [HFI.out, if_neg (by rw [hnb]; decide)])
        clear hnb
        go_wp2
        go_quiet (fail)
        have HDq := Aside0.mk (HDZ.out.later (pw_below_drewN (Below.refl wr.heap.size wr) nq))
        clear x0 x1 x2 x3 x4 y0 y1 y2 y3 y4 yr yv hr0 hv0
        generalize wr.drewN nq = wq at HDq ⊢
        have x0 := (blk_cell HDq.out.f 0).trans (rfl : _ = some (Value.int .i64 1))
        have x1 := (blk_cell HDq.out.f 1).trans (show _ = some (Value.int .i64 i0) from by rw [HII.out]; rfl)
        have x2 := (blk_cell HDq.out.f 2).trans (show _ = some (Value.int .i64 i1) from by rw [HII.out]; rfl)
        have x3 := (blk_cell HDq.out.f 3).trans (show _ = some (Value.int .i64 i2) from by rw [HII.out]; rfl)
        have x4 := (blk_cell HDq.out.f 4).trans (show _ = some (Value.int .i64 i3) from by rw [HII.out]; rfl)
        go_wp2_with (first | (refine wpList_store_row rfl 60 _ _ rfl w.heap.size #[.int .i64 1, .int .i64 i0, .int .i64 i1, .int .i64 i2, .int .i64 i3] rfl rfl 60 #[.int .i64 0, .int .i64 0, .int .i64 0, .int .i64 0, .int .i64 0] HDq.out.z (by kernel_rfl) (by kernel_rfl) (by kernel_rfl) ?_))
        have hz := setRow_heap wq w.heap.size #[.int .i64 0, .int .i64 0, .int .i64 0, .int .i64 0, .int .i64 0] #[.int .i64 1, .int .i64 i0, .int .i64 i1, .int .i64 i2, .int .i64 i3] 60 (0, 0) HDq.out.z
        have HBZ := Aside0.mk (below_setRow HDq.out.be (Nat.le_refl _) #[.int .i64 1, .int .i64 i0, .int .i64 i1, .int .i64 i2, .int .i64 i3])
        generalize wq.setRow w.heap.size #[.int .i64 1, .int .i64 i0, .int .i64 i1, .int .i64 i2, .int .i64 i3] = wz at hz HBZ ⊢
        have z0 := (blk_cell hz 0).trans rfl; have z1 := (blk_cell hz 1).trans rfl; have z2 := (blk_cell hz 2).trans rfl; have z3 := (blk_cell hz 3).trans rfl; have z4_ := (blk_cell hz 4).trans rfl
        exact bodyPost_ret (v := .tuple #[.agg #[.int .i64 1, .int .i64 i0, .int .i64 i1, .int .i64 i2, .int .i64 i3], .int .i64 0]) (by simp [results, Try.results30, go_sem, z0, z1, z2, z3, z4_]) rfl ⟨by rw [HON.out, HIX.out]; rfl, HBZ.out⟩
end Go.Proofs.Ytblehkoonajofaa.PTns
