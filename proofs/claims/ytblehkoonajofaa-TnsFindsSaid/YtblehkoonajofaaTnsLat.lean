/- Tns: the lattice. -/
import Derived.Test.YtblehkoonajofaaTnsBase
import Derived.Test.YtblehkoonajofaaFixBaseTns
namespace Go.Proofs.Ytblehkoonajofaa.PTns
open Go.RowKit Go.Proofs.YtblehkoonajofaaW.PrintWords Go.Proofs.YtblehkoonajofaaW.PrintLast Go.Proofs.YtblehkoonajofaaW.PrintMore Go.Proofs.Ytblehkoonajofaa.RowAt
attribute [local go_sem] max2_int min2_int max_two min_two max_three min_three max_four min_four   -- for this text's walks alone
set_option linter.unusedVariables false
set_option linter.unusedSimpArgs false
structure Only (W w' : World) (p : Nat) : Prop where
  os : w'.os = W.os
  tape : w'.tape = W.tape
  output : w'.output = W.output
  size : W.heap.size ≤ w'.heap.size
  block : ∀ i, i < W.heap.size → i ≠ p → w'.heap[i]? = W.heap[i]?
theorem Only.below {W w' w0 : World} {p base : Nat} (h : Only W w' p) (hb : Below base w0 W) (hB : base ≤ W.heap.size) (hp : base ≤ p) : Below base w0 w' :=
  ⟨h.os.trans hb.os, h.tape.trans hb.tape, h.output.trans hb.output, Nat.le_trans hb.size h.size, fun i hi => (h.block i (by omega) (by omega)).trans (hb.block i hi)⟩
theorem Only.of_below {W w1 : World} {p : Nat} (h : Below W.heap.size W w1) : Only W w1 p := ⟨h.os, h.tape, h.output, h.size, fun i hi _ => h.block i hi⟩
theorem Only.trans {W w1 w2 : World} {p : Nat} (h : Only W w1 p) (g : Only w1 w2 p) : Only W w2 p :=
  ⟨g.os.trans h.os, g.tape.trans h.tape, g.output.trans h.output, Nat.le_trans h.size g.size, fun i hi hp => (g.block i (Nat.lt_of_lt_of_le hi h.size) hp).trans (h.block i hi hp)⟩
/-- The part of an index. -/
def partV (i : Int) : Int := (tns_part.f 1000 i).getD 0
theorem part_of {i : Int} (h0 : 0 ≤ i) (h1 : i ≤ 16) : tns_part.f 1000 i = some (partV i) ∧ -32768 ≤ partV i ∧ partV i ≤ 32767 := by
  have h : ∀ k : Fin 17, tns_part.f 1000 (k.val : Int) = some (partV (k.val : Int)) ∧ -32768 ≤ partV (k.val : Int) ∧ partV (k.val : Int) ≤ 32767 := by decide +kernel
  have h2 := h ⟨i.toNat, by omega⟩
  rwa [show ((i.toNat : Nat) : Int) = i by omega] at h2
def latC (K S : List Int) : Array Value := (nums .i16 K ++ nums .i32 S).toArray
def z4 : List Int := [0, 0, 0, 0]
def partsL (x : List Int) : List Int := x.map partV
theorem lat_k {w : World} {p : Nat} {K S : List Int} (h : w.heap[p]? = some (.cells (latC K S) 130 (0, 0))) {j : Nat} (hj : j < K.length) : w.cell? ⟨p, j, none⟩ = some (.int .i16 (K.getD j 0)) := by
  rw [blk_cell h, latC, List.getElem?_toArray, List.getElem?_append_left (by simp [nums]; exact hj), nums, List.getElem?_map, List.getElem?_eq_getElem hj, List.getD_eq_getElem?_getD, List.getElem?_eq_getElem hj]; rfl
theorem lat_s {w : World} {p : Nat} {K S : List Int} (hK : K.length = 4) (h : w.heap[p]? = some (.cells (latC K S) 130 (0, 0))) {j : Nat} (hj : j < S.length) : w.cell? ⟨p, 4 + j, none⟩ = some (.int .i32 (S.getD j 0)) := by
  rw [blk_cell h, latC, List.getElem?_toArray, List.getElem?_append_right (by simp [nums, hK]), show 4 + j - (nums .i16 K).length = j by simp [nums, hK], nums, List.getElem?_map, List.getElem?_eq_getElem hj, List.getD_eq_getElem?_getD, List.getElem?_eq_getElem hj]; rfl
theorem lat_setk {w : World} {p : Nat} {K S : List Int} (h : w.heap[p]? = some (.cells (latC K S) 130 (0, 0))) {j : Nat} (hj : j < K.length) (v : Int) : (w.setCell ⟨p, j, none⟩ (.int .i16 v)).heap[p]? = some (.cells (latC (K.set j v) S) 130 (0, 0)) := by
  have h1 := blk_set h j (.int .i16 v)
  rw [h1]; congr 2
  simp [latC, nums, List.map_set, List.set_append_left, hj]
theorem lat_sets {w : World} {p : Nat} {K S : List Int} (hK : K.length = 4) (h : w.heap[p]? = some (.cells (latC K S) 130 (0, 0))) (j : Nat) (v : Int) : (w.setCell ⟨p, 4 + j, none⟩ (.int .i32 v)).heap[p]? = some (.cells (latC K (S.set j v)) 130 (0, 0)) := by
  have h1 := blk_set h (4 + j) (.int .i32 v)
  rw [h1]; congr 2
  simp [latC, nums, List.map_set, List.set_append_right, hK]
theorem only_set (w : World) (p j : Nat) (v : Value) : Only w (w.setCell ⟨p, j, none⟩ v) p := by
  have hb : Below p w (w.setCell ⟨p, j, none⟩ v) := (Below.refl p w).setCell (p := ⟨p, j, none⟩) (Nat.le_refl _) v
  refine ⟨hb.os, hb.tape, hb.output, ?_, fun i _ hne => Below.heap_setCell _ _ _ _ hne⟩
  exact hb.size
theorem tns_of.calls (on : Int) (x : List Int) (hx : x.length = 4) (hk : ∀ j, j < 4 → 0 ≤ x.getD j 0 ∧ x.getD j 0 ≤ 16) (w : World) :
    Calls Try.prog 78 #[filtV on x] w fun e w' => ∃ p, e = .returned (.pointer (some ⟨p, 0, none⟩)) ∧ w.heap.size ≤ p ∧ w'.heap[p]? = some (.cells (latC (partsL x) z4) 130 (0, 0)) ∧ Below w.heap.size w w' := by
  have HK := Aside0.mk hk
  have HPL := Aside0.mk (show (partsL x).length = 4 from by unfold partsL; rw [List.length_map, hx])
  have HPA := Aside0.mk (show ∀ j, j < 4 → (partsL x).getD j 0 = partV (x.getD j 0) from fun j hj => by
    unfold partsL; rw [List.getD_eq_getElem?_getD, List.getElem?_map, List.getD_eq_getElem?_getD, List.getElem?_eq_getElem (by omega)]; rfl)
  obtain ⟨L, hL⟩ : ∃ L, L = partsL x := ⟨_, rfl⟩
  rw [← hL] at HPL HPA ⊢
  clear hL hk
  obtain ⟨a0, a1, a2, a3, rfl⟩ := four hx
  clear hx
  have HI := Aside0.mk (index4 a0 a1 a2 a3)
  have hb0 := below_alloc (below_alloc (Below.refl w.heap.size w) (.cells #[.int .i64 on, .int .i64 a0, .int .i64 a1, .int .i64 a2, .int .i64 a3] 60)) (.cells (latC z4 z4) 130)
  have HBB := Aside0.mk hb0
  have HBX := Aside0.mk (two_new w (.cells #[.int .i64 on, .int .i64 a0, .int .i64 a1, .int .i64 a2, .int .i64 a3] 60) (.cells (latC z4 z4) 130)).2
  clear hb0
  rw [filtV_eq]
  go_enter Try.func78, Try.ntmps78
  go_wp2
  change Code.wp _ _ _ _ ((w.alloc (.cells #[.int .i64 on, .int .i64 a0, .int .i64 a1, .int .i64 a2, .int .i64 a3] 60)).alloc (.cells (latC z4 z4) 130))
  generalize (w.alloc (.cells #[.int .i64 on, .int .i64 a0, .int .i64 a1, .int .i64 a2, .int .i64 a3] 60)).alloc (.cells (latC z4 z4) 130) = w2 at HBB HBX ⊢
  go_loopg [4, 5, 10, 11, 12, 13, 14, 15, 16, 17, 18, 19, 20, 21] 4 (fun kq v4 v5 v10 v11 v12 v13 v14 v15 v16 v17 v18 v19 v20 v21 wx => ∃ i : Nat, v10 = .int .i64 (i : Int) ∧ Aside0 (kq + i = 4) ∧ Aside0 (wx.heap[w.heap.size + 1]? = some (.cells (latC (L.take i ++ z4.drop i) z4) 130 (0, 0))) ∧ Aside0 (Below w.heap.size w wx))
  case atStart => exact ⟨0, rfl, ⟨rfl⟩, HBX, HBB⟩
  case round =>
    clear HBB HBX
    obtain ⟨i, rfl, HG, HX, HB⟩ := hrel
    by_cases hi : i < 4
    · have hi0 : (0 : Int) ≤ i := by omega
      have hi8 : (i : Int) < 4 := by omega
      have hx := fun w_ => HI.out i hi w_
      have hk := HK.out i hi
      have hla := HPA.out i hi
      generalize [a0, a1, a2, a3].getD i 0 = x at hx hk hla
      have hp := part_of hk.1 hk.2
      obtain ⟨v, hv⟩ : ∃ v, v = partV x := ⟨_, rfl⟩
      rw [← hv] at hp hla
      have HP := Aside0.mk hp.1
      have HLA := Aside0.mk hla
      have HII := Aside0.mk hi
      have hlen : (L.take i ++ z4.drop i).length = 4 := by rw [List.length_append, List.length_take, List.length_drop, HPL.out]; show min i 4 + (4 - i) = 4; omega
      have HLEN := Aside0.mk hlen
      have hoc := lat_k HX.out (j := i) (by rw [hlen]; exact hi)
      have HOC := Aside0.mk hoc
      obtain ⟨g0, rfl⟩ : ∃ g0, gk = g0 + 1 := ⟨gk - 1, by have := HG.out; omega⟩
      have hwi : IntKind.i64.wrap ((i : Int) + 1) = ((i + 1 : Nat) : Int) := by rw [i64_w]; unfold wrap64; omega
      clear hv hp hla hi hk hlen hoc
      go_wp2
      go_region_with (first | (go_at_call 93; refine (tns_part.calls 1000 x v _ HP.out).mono ?_; rintro e w3 ⟨rfl, hb_⟩; obtain ⟨q8, hq8⟩ := hb_.out; have hbw := (show Below wr.heap.size wr w3 from (by rw [hq8]; exact pw_below_drewN (below_drew (Below.refl _ _)) _)); have HX3 := Aside0.mk (box_later HX.out hbw); have HB3 := Aside0.mk (below_step HB.out hbw); have hoc3 : w3.cell? ⟨w.heap.size + 1, i, none⟩ = some (.int .i16 ((L.take i ++ z4.drop i).getD i 0)) := (hbw.cell (World.block_lt_of_cell? _ _ HOC.out)).trans HOC.out; have hof3 : w3.frozen? ⟨w.heap.size + 1, i, none⟩ = false := blk_frozen HX3.out i; clear hb_ hq8 hbw))
      all_goals
        have HX4 := Aside0.mk (lat_setk HX3.out (j := i) (by rw [HLEN.out]; exact HII.out) v)
        rw [HLA.out.symm, mix_set HII.out HPL.out rfl] at HX4
        have HB4 := Aside0.mk (HB3.out.setCell (p := ⟨w.heap.size + 1, i, none⟩) (by dsimp; omega) (.int .i16 v))
        rw [HLA.out] at HX4
        clear hoc3 hof3
        go_wp2
        go_roundg g0
        case measure => omega
        case rel => exact ⟨i + 1, by first | rfl | (congr 1; push_cast; rfl), ⟨by have := HG.out; omega⟩, HX4, HB4⟩
    · obtain rfl : i = 4 := by have := HG.out; omega
      have HX5 := Aside0.mk (show wr.heap[w.heap.size + 1]? = some (.cells (latC L z4) 130 (0, 0)) from by have h1 := HX.out; rw [show z4.drop 4 = [] from rfl, List.append_nil, List.take_of_length_le (by rw [HPL.out]; exact Nat.le_refl _)] at h1; exact h1)
      clear hi
      go_wp2
      exact bodyPost_ret (v := .pointer (some ⟨w.heap.size + 1, 0, none⟩)) (by simp [results, Try.results78, go_sem]) rfl ⟨_, rfl, by omega, HX5.out, HB.out⟩
section
open Go.Proofs.Ytblehkoonajofaa.Num
def mul15 (a k : Int) : Int := sat32 (rnd (a * k) 15)
def addS (a b : Int) : Int := sat32 (a + b)
def subS (a b : Int) : Int := sat32 (a - b)
/-- Within 32 bits, within 16. -/
def In32 (a : Int) : Prop := -2147483648 ≤ a ∧ a ≤ 2147483647
def In16 (a : Int) : Prop := -32768 ≤ a ∧ a ≤ 32767
theorem mul15_in (a k : Int) : In32 (mul15 a k) := sat32_range _
theorem addS_in (a k : Int) : In32 (addS a k) := sat32_range _
theorem subS_in (a k : Int) : In32 (subS a k) := sat32_range _
theorem Mul_of {a k : Int} (ha : In32 a) (hk : In16 k) : fix_Mul15.f a k = some (mul15 a k) := Go.Proofs.Ytblehkoonajofaa.FixBaseTns.Mul15_eq ha.1 ha.2 (by have := hk.1; omega) (by have := hk.2; omega)
theorem Add_of {a b : Int} (ha : In32 a) (hb : In32 b) : fix_Add.f a b = some (addS a b) := Go.Proofs.Ytblehkoonajofaa.FixBaseTns.Add_eq ha.1 ha.2 hb.1 hb.2
theorem Sub_of {a b : Int} (ha : In32 a) (hb : In32 b) : fix_Sub.f a b = some (subS a b) := Go.Proofs.Ytblehkoonajofaa.FixBaseTns.Sub_eq ha.1 ha.2 hb.1 hb.2
end
/-- The backs of a line's fronts. -/
def backV (K S F : List Int) : Nat → Int
  | 0 => F.getD 0 0
  | j+1 => addS (S.getD j 0) (mul15 (F.getD j 0) (K.getD j 0))
def nextS (K S F : List Int) : List Int := (List.range 4).map (backV K S F)
theorem nextS_length (K S F : List Int) : (nextS K S F).length = 4 := by simp [nextS]
theorem nextS_at (K S F : List Int) {j : Nat} (hj : j < 4) : (nextS K S F).getD j 0 = backV K S F j := by
  rw [nextS, List.getD_eq_getElem?_getD, List.getElem?_map, List.getElem?_range hj]; rfl
/-- A lattice's numbers are within their bits. -/
structure LatOk (K S : List Int) : Prop where
  k4 : K.length = 4
  s4 : S.length = 4
  ki : ∀ j, j < 4 → In16 (K.getD j 0)
  si : ∀ j, j < 4 → In32 (S.getD j 0)
theorem mix_after {L h : List Int} {j n m : Nat} (hj : j ≤ m) (hm : m < n) (hL : L.length = n) (hh : h.length = n) : (L.take j ++ h.drop j).getD m 0 = h.getD m 0 := by
  rw [List.getD_eq_getElem?_getD, List.getElem?_append_right (by rw [List.length_take]; omega), List.length_take, Nat.min_eq_left (by omega), List.getElem?_drop, List.getD_eq_getElem?_getD, show j + (m - j) = m by omega]
theorem five {a : List Int} (h : a.length = 5) : ∃ a0 a1 a2 a3 a4, a = [a0, a1, a2, a3, a4] := by
  match a, h with
  | [a0, a1, a2, a3, a4], _ => exact ⟨a0, a1, a2, a3, a4, rfl⟩
def frontA (F : List Int) : Value := .agg (nums .i32 F).toArray
theorem frontA_eq (a0 a1 a2 a3 a4 : Int) : frontA [a0, a1, a2, a3, a4] = .agg #[.int .i32 a0, .int .i32 a1, .int .i32 a2, .int .i32 a3, .int .i32 a4] := rfl
theorem lat_move.calls (p : Nat) (K S F : List Int) (w : World) (hok : LatOk K S) (hF : F.length = 5) (hFi : ∀ j, j < 5 → In32 (F.getD j 0)) (h : w.heap[p]? = some (.cells (latC K S) 130 (0, 0))) :
    Calls Try.prog 97 #[.pointer (some ⟨p, 0, none⟩), frontA F] w fun e w' => e = .returned (.tuple #[]) ∧ w'.heap[p]? = some (.cells (latC K (nextS K S F)) 130 (0, 0)) ∧ Only w w' p := by
  have HOK := Aside0.mk hok
  have HFI := Aside0.mk hFi
  have HNA := Aside0.mk (fun (j : Nat) (hj : j < 4) => nextS_at K S F hj)
  have HNL := Aside0.mk (nextS_length K S F)
  have HBK := Aside0.mk (show ∀ j : Nat, backV K S F (j + 1) = addS (S.getD j 0) (mul15 (F.getD j 0) (K.getD j 0)) from fun j => rfl)
  have hpl := blk_lt h
  have HPL := Aside0.mk hpl
  have HW := Aside0.mk h
  obtain ⟨f0, f1, f2, f3, f4, h5⟩ := five hF
  have hFA : frontA F = .agg #[.int .i32 f0, .int .i32 f1, .int .i32 f2, .int .i32 f3, .int .i32 f4] := by rw [h5]; rfl
  have HFL := Aside0.mk hF
  have HBX := Aside0.mk (blk_new w (.cells (nums .i32 F).toArray 146))
  have HLW := Aside0.mk (box_later HW.out (below_alloc (Below.refl w.heap.size w) (.cells (nums .i32 F).toArray 146)))
  have HON := Aside0.mk (Only.of_below (p := p) (below_alloc (Below.refl w.heap.size w) (.cells (nums .i32 F).toArray 146)))
  have HFB := Aside0.mk (show (#[Value.int .i32 f0, .int .i32 f1, .int .i32 f2, .int .i32 f3, .int .i32 f4] : Array Value) = (nums .i32 F).toArray from by rw [h5]; rfl)
  have HF0 := Aside0.mk (show backV K S F 0 = f0 from by rw [h5]; rfl)
  clear hok hF hFi h hpl HW h5
  rw [hFA]
  clear hFA
  generalize hN : nextS K S F = N
  rw [hN] at HNA HNL
  have HNN := Aside0.mk hN
  clear hN
  go_enter Try.func97, Try.ntmps97
  go_wp2
  change Code.wp _ _ _ _ (w.alloc (.cells #[.int .i32 f0, .int .i32 f1, .int .i32 f2, .int .i32 f3, .int .i32 f4] 146))
  rw [HFB.out]
  generalize w.alloc (.cells (nums .i32 F).toArray 146) = w2 at HBX HLW HON ⊢
  go_loopg [4, 5, 6, 9, 10, 11, 12, 13, 14, 15, 16, 17, 18, 19, 20, 21, 22, 23, 24, 25, 26, 27, 28, 29, 30, 31, 32, 33, 34, 35, 36] 4 (fun kq v4 v5 v6 v9 v10 v11 v12 v13 v14 v15 v16 v17 v18 v19 v20 v21 v22 v23 v24 v25 v26 v27 v28 v29 v30 v31 v32 v33 v34 v35 v36 wx => ∃ i : Nat, v9 = .int .i64 (i : Int) ∧ v4 = .int .i32 (backV K S F i) ∧ Aside0 (kq + i = 4) ∧ Aside0 (wx.heap[p]? = some (.cells (latC K (N.take i ++ S.drop i)) 130 (0, 0))) ∧ Aside0 (wx.heap[w.heap.size]? = some (.cells (nums .i32 F).toArray 146 (0, 0))) ∧ Aside0 (Only w wx p))
  case atStart => exact ⟨0, rfl, by rw [HF0.out], ⟨rfl⟩, ⟨HLW.out⟩, ⟨HBX.out⟩, ⟨HON.out⟩⟩
  case round =>
    clear HLW HBX HON
    obtain ⟨i, rfl, rfl, HG, HL, HX, HO⟩ := hrel
    by_cases hi : i < 4
    · have hi0 : (0 : Int) ≤ i := by omega
      have hi4 : (i : Int) < 4 := by omega
      have hi5 : (i : Int) < 5 := by omega
      have hml : (N.take i ++ S.drop i).length = 4 := by rw [List.length_append, List.length_take, List.length_drop, HNL.out, HOK.out.s4]; omega
      have hs := lat_s HOK.out.k4 HL.out (j := i) (by rw [hml]; exact hi)
      rw [mix_at hi HNL.out HOK.out.s4] at hs
      have hk := lat_k HL.out (j := i) (by rw [HOK.out.k4]; exact hi)
      have hf := nums_at HX.out (i := i) (by rw [HFL.out]; omega)
      have hsi := HOK.out.si i hi
      have hki := HOK.out.ki i hi
      have hfi := HFI.out i (by omega)
      have hbk := HBK.out i
      have hna := HNA.out i hi
      generalize S.getD i 0 = s at hs hsi hbk
      generalize K.getD i 0 = kk at hk hki hbk
      generalize F.getD i 0 = f at hf hfi hbk
      obtain ⟨m, hm⟩ : ∃ m, m = mul15 f kk := ⟨_, rfl⟩
      have HM := Aside0.mk (show fix_Mul15.f f kk = some m from by rw [hm]; exact Mul_of hfi hki)
      have hmi : In32 m := by rw [hm]; exact mul15_in _ _
      rw [← hm] at hbk
      obtain ⟨nx, hnx⟩ : ∃ nx, nx = addS s m := ⟨_, rfl⟩
      have HA := Aside0.mk (show fix_Add.f s m = some nx from by rw [hnx]; exact Add_of hsi hmi)
      rw [← hnx] at hbk
      obtain ⟨bv, hbv⟩ : ∃ bv, bv = backV K S F i := ⟨_, rfl⟩
      rw [← hbv] at hna ⊢
      have HNA2 := Aside0.mk hna
      have HBK2 := Aside0.mk hbk
      have HII := Aside0.mk hi
      have HML := Aside0.mk hml
      obtain ⟨g0, rfl⟩ : ∃ g0, gk = g0 + 1 := ⟨gk - 1, by have := HG.out; omega⟩
      have hwi : IntKind.i64.wrap ((i : Int) + 1) = ((i + 1 : Nat) : Int) := by rw [i64_w]; unfold wrap64; omega
      clear hm hnx hbv hbk hna hsi hki hfi hmi hml hi
      go_wp2
      have hsd : wr.drew.cell? ⟨p, 4 + i, none⟩ = some (.int .i32 s) := hs
      have hkd : wr.drew.cell? ⟨p, i, none⟩ = some (.int .i16 kk) := hk
      have hfd : wr.drew.cell? ⟨w.heap.size, i, none⟩ = some (.int .i32 f) := hf
      have HBd := Aside0.mk (below_drew (Below.refl wr.heap.size wr))
      go_region_held3 (fun W => W.cell? ⟨p, 4 + i, none⟩ = some (.int .i32 s) ∧ W.cell? ⟨p, i, none⟩ = some (.int .i16 kk) ∧ W.cell? ⟨w.heap.size, i, none⟩ = some (.int .i32 f)) (first | exact ⟨hs, hk, hf⟩ | exact ⟨hsd, hkd, hfd⟩ | exact ⟨hs3, hk3, hf3⟩ | exact ⟨hs4, hk4, hf4⟩)
        (first | (go_at_call 96; refine (fix_Mul15.calls f kk m _ HM.out).mono ?_; rintro e w3 ⟨rfl, hb_⟩; obtain ⟨q8, hq8⟩ := hb_.out; have hs3 : w3.cell? ⟨p, 4 + i, none⟩ = some (.int .i32 s) := (by rw [hq8]; exact hs); have hk3 : w3.cell? ⟨p, i, none⟩ = some (.int .i16 kk) := (by rw [hq8]; exact hk); have hf3 : w3.cell? ⟨w.heap.size, i, none⟩ = some (.int .i32 f) := (by rw [hq8]; exact hf); have HB3 := Aside0.mk (show Below wr.heap.size wr w3 from (by rw [hq8]; exact pw_below_drewN HBd.out _)); clear hb_ hq8) | (go_at_call 95; refine (fix_Add.calls s m nx _ HA.out).mono ?_; rintro e w4 ⟨rfl, hb_⟩; obtain ⟨q8, hq8⟩ := hb_.out; have hs4 : w4.cell? ⟨p, 4 + i, none⟩ = some (.int .i32 s) := (by rw [hq8]; exact hs3); have hk4 : w4.cell? ⟨p, i, none⟩ = some (.int .i16 kk) := (by rw [hq8]; exact hk3); have hf4 : w4.cell? ⟨w.heap.size, i, none⟩ = some (.int .i32 f) := (by rw [hq8]; exact hf3); have HB4 := Aside0.mk (show Below wr.heap.size wr w4 from (by rw [hq8]; exact pw_below_drewN HB3.out _)); clear hb_ hq8))
      have HL4 := Aside0.mk (box_later HL.out HB4.out)
      have HX4 := Aside0.mk (box_later HX.out HB4.out)
      have HO4 := Aside0.mk (HO.out.trans (Only.of_below HB4.out))
      have hof4 : w4.frozen? ⟨p, 4 + i, none⟩ = false := blk_frozen HL4.out _
      have hnep : w.heap.size ≠ p := by have := HPL.out; omega
      have HX5 := Aside0.mk ((Below.heap_setCell w4 ⟨p, 4 + i, none⟩ (.int .i32 bv) w.heap.size (by dsimp; exact hnep)).trans HX4.out)
      have HL5 := Aside0.mk (lat_sets HOK.out.k4 HL4.out i bv)
      have HO5 := Aside0.mk (HO4.out.trans (only_set w4 p (4 + i) (.int .i32 bv)))
      rw [← HNA2.out, mix_set HII.out HNL.out HOK.out.s4, HNA2.out] at HL5
      clear hs hk hf hsd hkd hfd hs3 hk3 hf3 hk4 hf4 hnep
      try clear hHeld
      go_wp2
      go_roundg g0
      case measure => omega
      case rel => exact ⟨i + 1, by first | rfl | (congr 1; push_cast; rfl), by rw [HBK2.out], ⟨by have := HG.out; omega⟩, HL5, HX5, HO5⟩
    · obtain rfl : i = 4 := by have := HG.out; omega
      have HL5 := Aside0.mk (show wr.heap[p]? = some (.cells (latC K N) 130 (0, 0)) from by have h1 := HL.out; rw [List.drop_eq_nil_of_le (by rw [HOK.out.s4]; exact Nat.le_refl _), List.append_nil, List.take_of_length_le (by rw [HNL.out]; exact Nat.le_refl _)] at h1; exact h1)
      clear hi
      go_wp2
      exact bodyPost_end (v := .tuple #[]) (by simp [results, Try.results97, go_sem]) (by rfl) ⟨rfl, HL5.out, HO.out⟩
def z5 : List Int := [0, 0, 0, 0, 0]
/-- The fronts of a line that runs through. -/
def frontUp (K S : List Int) (x : Int) : Nat → Int
  | 0 => x
  | j+1 => addS (frontUp K S x j) (mul15 (S.getD j 0) (K.getD j 0))
def upL (K S : List Int) (x : Int) : List Int := (List.range 5).map (frontUp K S x)
/-- The fronts of a line on its way back, from the last one. -/
def frontDown (K S : List Int) (x : Int) : Nat → Int
  | 0 => x
  | d+1 => subS (frontDown K S x d) (mul15 (S.getD (3 - d) 0) (K.getD (3 - d) 0))
def downL (K S : List Int) (x : Int) : List Int := (List.range 5).map fun j => frontDown K S x (4 - j)
theorem upL_length (K S : List Int) (x : Int) : (upL K S x).length = 5 := by simp [upL]
theorem downL_length (K S : List Int) (x : Int) : (downL K S x).length = 5 := by simp [downL]
theorem upL_at (K S : List Int) (x : Int) {j : Nat} (hj : j < 5) : (upL K S x).getD j 0 = frontUp K S x j := by
  rw [upL, List.getD_eq_getElem?_getD, List.getElem?_map, List.getElem?_range hj]; rfl
theorem downL_at (K S : List Int) (x : Int) {j : Nat} (hj : j < 5) : (downL K S x).getD j 0 = frontDown K S x (4 - j) := by
  rw [downL, List.getD_eq_getElem?_getD, List.getElem?_map, List.getElem?_range hj]; rfl
theorem frontUp_in {K S : List Int} {x : Int} (hx : In32 x) : ∀ j, In32 (frontUp K S x j)
  | 0 => hx
  | j+1 => addS_in _ _
theorem frontDown_in {K S : List Int} {x : Int} (hx : In32 x) : ∀ j, In32 (frontDown K S x j)
  | 0 => hx
  | j+1 => subS_in _ _
theorem mix_at' {L h : List Int} {j n m : Nat} (hm : m < j) (hj : j ≤ n) (hL : L.length = n) : (L.take j ++ h.drop j).getD m 0 = L.getD m 0 := by
  rw [List.getD_eq_getElem?_getD, List.getElem?_append_left (by rw [List.length_take]; omega), List.getElem?_take, if_pos hm, List.getD_eq_getElem?_getD]
theorem mix_down {z F : List Int} {m n : Nat} (hm : m < n) (hz : z.length = n) (hF : F.length = n) : (z.take (m + 1) ++ F.drop (m + 1)).set m (F.getD m 0) = z.take m ++ F.drop m := by
  apply List.ext_getElem?
  intro i
  rw [List.getElem?_set]
  by_cases e : m = i
  · subst e
    rw [if_pos rfl, if_pos (by rw [List.length_append, List.length_take, List.length_drop]; omega), List.getElem?_append_right (by rw [List.length_take]; omega), List.length_take, Nat.min_eq_left (by omega), Nat.sub_self, List.getElem?_drop, List.getD_eq_getElem?_getD, Nat.add_zero, List.getElem?_eq_getElem (by omega)]; rfl
  · rw [if_neg e]
    by_cases e2 : i < m
    · rw [List.getElem?_append_left (by rw [List.length_take]; omega), List.getElem?_append_left (by rw [List.length_take]; omega), List.getElem?_take, List.getElem?_take, if_pos e2, if_pos (by omega)]
    · rw [List.getElem?_append_right (by rw [List.length_take]; omega), List.getElem?_append_right (by rw [List.length_take]; omega), List.length_take, List.length_take, List.getElem?_drop, List.getElem?_drop, Nat.min_eq_left (by omega), Nat.min_eq_left (by omega)]
      congr 1; omega
theorem take_one (F : List Int) (x : Int) (h : 0 < F.length) (hx : x = F.getD 0 0) : F.take (0 + 1) = [x] := by
  cases F with
  | nil => cases h
  | cons a F => subst hx; rfl
theorem cell_far (W : World) {p g i j : Nat} {v : Value} (h : p ≠ g) : (W.setCell ⟨g, j, none⟩ v).cell? ⟨p, i, none⟩ = W.cell? ⟨p, i, none⟩ := by
  simp only [World.cell?]; rw [Below.heap_setCell W ⟨g, j, none⟩ v p h]
theorem cell_near (W : World) {g i j : Nat} {v : Value} (h : i ≠ j) : (W.setCell ⟨g, j, none⟩ v).cell? ⟨g, i, none⟩ = W.cell? ⟨g, i, none⟩ := by
  apply World.cell?_setCell_other
  exact fun e => h (congrArg Addr.off e).symm
theorem Only.trans_new {W w1 : World} {p : Nat} (h : Only W w1 p) (hp : p < W.heap.size) (j : Nat) (v : Value) : Only W (w1.setCell ⟨W.heap.size, j, none⟩ v) p :=
  ⟨h.os, h.tape, h.output, by rw [World.size_setCell]; exact h.size, fun i hi hne => (Below.heap_setCell _ _ _ _ (by dsimp; omega)).trans (h.block i hi hne)⟩
set_option maxRecDepth 100000 in
theorem lat_run.calls (p : Nat) (K S : List Int) (x : Int) (w : World) (hok : LatOk K S) (hx : In32 x) (h : w.heap[p]? = some (.cells (latC K S) 130 (0, 0))) :
    Calls Try.prog 73 #[.pointer (some ⟨p, 0, none⟩), .int .i32 x] w fun e w' => e = .returned (.int .i32 (frontUp K S x 4)) ∧ w'.heap[p]? = some (.cells (latC K (nextS K S (upL K S x))) 130 (0, 0)) ∧ Only w w' p := by
  have HOK := Aside0.mk hok
  have HPL := Aside0.mk (blk_lt h)
  have HMV := Aside0.mk (fun W (g : W.heap[p]? = some (.cells (latC K S) 130 (0, 0))) => lat_move.calls p K S (upL K S x) W hok (upL_length K S x) (fun j hj => by rw [upL_at K S x hj]; exact frontUp_in hx _) g)
  have HUA := Aside0.mk (fun (j : Nat) (hj : j < 5) => upL_at K S x hj)
  have HUL := Aside0.mk (upL_length K S x)
  have HIN := Aside0.mk (fun j => frontUp_in (K := K) (S := S) hx j)
  obtain ⟨F, hF⟩ : ∃ F, F = upL K S x := ⟨_, rfl⟩
  rw [← hF] at HMV HUA HUL ⊢
  clear hF hok hx
  have HLW := Aside0.mk (box_later h (below_alloc (Below.refl w.heap.size w) (.cells (nums .i32 z5).toArray 146)))
  have HON := Aside0.mk (Only.of_below (p := p) (below_alloc (Below.refl w.heap.size w) (.cells (nums .i32 z5).toArray 146)))
  have HBX := Aside0.mk (blk_new w (.cells (nums .i32 z5).toArray 146))
  have HLW2 := Aside0.mk (fun w2 (hb : Below w.heap.size w w2) => box_later h hb)
  clear h
  have HX0 := Aside0.mk (show x = F.getD 0 0 from by rw [HUA.out 0 (by decide)]; rfl)
  go_enter Try.func73, Try.ntmps73
  go_wp2_with (first | (refine wpList_store_row rfl 146 _ _ rfl w.heap.size #[.int .i32 x, .int .i32 0, .int .i32 0, .int .i32 0, .int .i32 0] rfl rfl 146 (nums .i32 z5).toArray (blk_new w _) (by kernel_rfl) (by kernel_rfl) (by kernel_rfl) ?_))
  change Code.wp _ _ _ _ ((w.alloc (.cells (nums .i32 z5).toArray 146)).setRow w.heap.size #[.int .i32 x, .int .i32 0, .int .i32 0, .int .i32 0, .int .i32 0])
  have hsr := setRow_heap (w.alloc (.cells (nums .i32 z5).toArray 146)) w.heap.size (nums .i32 z5).toArray #[.int .i32 x, .int .i32 0, .int .i32 0, .int .i32 0, .int .i32 0] 146 (0, 0) HBX.out
  have hbs := below_setRow (below_alloc (Below.refl w.heap.size w) (.cells (nums .i32 z5).toArray 146)) (Nat.le_refl _) #[.int .i32 x, .int .i32 0, .int .i32 0, .int .i32 0, .int .i32 0]
  generalize (w.alloc (.cells (nums .i32 z5).toArray 146)).setRow w.heap.size #[.int .i32 x, .int .i32 0, .int .i32 0, .int .i32 0, .int .i32 0] = w2 at hsr hbs ⊢
  have HX2 := Aside0.mk (show w2.heap[w.heap.size]? = some (.cells (nums .i32 (F.take 1 ++ z5.drop 1)).toArray 146 (0, 0)) from by rw [hsr, take_one F x (by rw [HUL.out]; decide) HX0.out]; rfl)
  have HL2 := Aside0.mk (show w2.heap[p]? = some (.cells (latC K S) 130 (0, 0)) from HLW2.out w2 hbs)
  have HO2 := Aside0.mk (Only.of_below (p := p) hbs)
  clear hsr hbs HLW HON HBX HLW2
  go_loopg [6, 9, 10, 11, 12, 13, 14, 15, 16, 17, 18, 19, 20, 21, 22, 23, 24, 25, 26, 27, 28, 29, 30, 31, 32] 4 (fun kq v6 v9 v10 v11 v12 v13 v14 v15 v16 v17 v18 v19 v20 v21 v22 v23 v24 v25 v26 v27 v28 v29 v30 v31 v32 wx => ∃ i : Nat, v9 = .int .i64 (i : Int) ∧ Aside0 (kq + i = 4) ∧ Aside0 (wx.heap[p]? = some (.cells (latC K S) 130 (0, 0))) ∧ Aside0 (wx.heap[w.heap.size]? = some (.cells (nums .i32 (F.take (i + 1) ++ z5.drop (i + 1))).toArray 146 (0, 0))) ∧ Aside0 (Only w wx p))
  case atStart => exact ⟨0, rfl, ⟨rfl⟩, ⟨HL2.out⟩, ⟨HX2.out⟩, ⟨HO2.out⟩⟩
  case round =>
    clear HL2 HX2 HO2
    obtain ⟨i, rfl, HG, HL, HX, HO⟩ := hrel
    by_cases hi : i < 4
    · have hi0 : (0 : Int) ≤ i := by omega
      have hi4 : (i : Int) < 4 := by omega
      have hi5 : (i : Int) < 5 := by omega
      have hj5 : (i : Int) + 1 < 5 := by omega
      have hj0 : (0 : Int) ≤ (i : Int) + 1 := by omega
      have hn5 : i + 1 < 5 := by omega
      have ht1 : ((i : Int) + 1).toNat = i + 1 := by omega
      have hs := lat_s HOK.out.k4 HL.out (j := i) (by rw [HOK.out.s4]; exact hi)
      have hk := lat_k HL.out (j := i) (by rw [HOK.out.k4]; exact hi)
      have hsi := HOK.out.si i hi
      have hki := HOK.out.ki i hi
      have hml : (F.take (i + 1) ++ z5.drop (i + 1)).length = 5 := by rw [List.length_append, List.length_take, List.length_drop, HUL.out]; show min (i + 1) 5 + (5 - (i + 1)) = 5; omega
      have hf := nums_at HX.out (i := i) (by rw [hml]; omega)
      rw [mix_at' (n := 5) (by omega) (by omega) HUL.out, HUA.out i (by omega)] at hf
      have hoc := nums_at HX.out (i := i + 1) (by rw [hml]; omega)
      have hfi := HIN.out i
      have hnew := HUA.out (i + 1) (by omega)
      rw [show frontUp K S x (i + 1) = addS (frontUp K S x i) (mul15 (S.getD i 0) (K.getD i 0)) from rfl] at hnew
      generalize S.getD i 0 = s at hs hsi hnew
      generalize K.getD i 0 = kk at hk hki hnew
      generalize frontUp K S x i = f at hf hfi hnew
      obtain ⟨ov, hov⟩ : ∃ ov, ov = (F.take (i + 1) ++ z5.drop (i + 1)).getD (i + 1) 0 := ⟨_, rfl⟩
      rw [← hov] at hoc
      obtain ⟨m, hm⟩ : ∃ m, m = mul15 s kk := ⟨_, rfl⟩
      have HM := Aside0.mk (show fix_Mul15.f s kk = some m from by rw [hm]; exact Mul_of hsi hki)
      have hmi : In32 m := by rw [hm]; exact mul15_in _ _
      rw [← hm] at hnew
      obtain ⟨nx, hnx⟩ : ∃ nx, nx = addS f m := ⟨_, rfl⟩
      have HA := Aside0.mk (show fix_Add.f f m = some nx from by rw [hnx]; exact Add_of hfi hmi)
      rw [← hnx] at hnew
      have HNW := Aside0.mk hnew
      have HII := Aside0.mk hi
      obtain ⟨g0, rfl⟩ : ∃ g0, gk = g0 + 1 := ⟨gk - 1, by have := HG.out; omega⟩
      have hwi : IntKind.i64.wrap ((i : Int) + 1) = (i : Int) + 1 := by rw [i64_w]; unfold wrap64; omega
      clear hm hnx hnew hsi hki hfi hmi hml hi hov
      go_wp2
      have hsd : wr.drew.cell? ⟨p, 4 + i, none⟩ = some (.int .i32 s) := hs
      have hkd : wr.drew.cell? ⟨p, i, none⟩ = some (.int .i16 kk) := hk
      have hfd : wr.drew.cell? ⟨w.heap.size, i, none⟩ = some (.int .i32 f) := hf
      have HBd := Aside0.mk (below_drew (Below.refl wr.heap.size wr))
      have HNE := Aside0.mk HPL.out
      have hs5 : ∀ W : World, W.cell? ⟨p, 4 + i, none⟩ = some (.int .i32 s) → (W.setCell ⟨w.heap.size, i + 1, none⟩ (.int .i32 nx)).cell? ⟨p, 4 + i, none⟩ = some (.int .i32 s) := fun W h => by rw [cell_far W (by have := HPL.out; omega)]; exact h
      have hk5 : ∀ W : World, W.cell? ⟨p, i, none⟩ = some (.int .i16 kk) → (W.setCell ⟨w.heap.size, i + 1, none⟩ (.int .i32 nx)).cell? ⟨p, i, none⟩ = some (.int .i16 kk) := fun W h => by rw [cell_far W (by have := HPL.out; omega)]; exact h
      have hf5 : ∀ W : World, W.cell? ⟨w.heap.size, i, none⟩ = some (.int .i32 f) → (W.setCell ⟨w.heap.size, i + 1, none⟩ (.int .i32 nx)).cell? ⟨w.heap.size, i, none⟩ = some (.int .i32 f) := fun W h => by rw [cell_near W (by omega)]; exact h
      go_region_held3 (fun W => W.cell? ⟨p, 4 + i, none⟩ = some (.int .i32 s) ∧ W.cell? ⟨p, i, none⟩ = some (.int .i16 kk) ∧ W.cell? ⟨w.heap.size, i, none⟩ = some (.int .i32 f)) (first | exact ⟨hs, hk, hf⟩ | exact ⟨hsd, hkd, hfd⟩ | exact ⟨hs3, hk3, hf3⟩ | exact ⟨hs4, hk4, hf4⟩ | exact ⟨hs5 _ hs4, hk5 _ hk4, hf5 _ hf4⟩)
        (first | (go_at_call 96; refine (fix_Mul15.calls s kk m _ HM.out).mono ?_; rintro e w3 ⟨rfl, hb_⟩; obtain ⟨q8, hq8⟩ := hb_.out; have hs3 : w3.cell? ⟨p, 4 + i, none⟩ = some (.int .i32 s) := (by rw [hq8]; exact hs); have hk3 : w3.cell? ⟨p, i, none⟩ = some (.int .i16 kk) := (by rw [hq8]; exact hk); have hf3 : w3.cell? ⟨w.heap.size, i, none⟩ = some (.int .i32 f) := (by rw [hq8]; exact hf); have HB3 := Aside0.mk (show Below wr.heap.size wr w3 from (by rw [hq8]; exact pw_below_drewN HBd.out _)); clear hb_ hq8) | (go_at_call 95; refine (fix_Add.calls f m nx _ HA.out).mono ?_; rintro e w4 ⟨rfl, hb_⟩; obtain ⟨q8, hq8⟩ := hb_.out; have hs4 : w4.cell? ⟨p, 4 + i, none⟩ = some (.int .i32 s) := (by rw [hq8]; exact hs3); have hk4 : w4.cell? ⟨p, i, none⟩ = some (.int .i16 kk) := (by rw [hq8]; exact hk3); have hf4 : w4.cell? ⟨w.heap.size, i, none⟩ = some (.int .i32 f) := (by rw [hq8]; exact hf3); have HB4 := Aside0.mk (show Below wr.heap.size wr w4 from (by rw [hq8]; exact pw_below_drewN HB3.out _)); have hoc4 : w4.cell? ⟨w.heap.size, i + 1, none⟩ = some (.int .i32 ov) := (by rw [hq8]; exact (HB3.out.cell (World.block_lt_of_cell? _ _ hoc)).trans hoc); have hof4 : w4.frozen? ⟨w.heap.size, i + 1, none⟩ = false := blk_frozen (box_later HX.out HB4.out) _; clear hb_ hq8))
      have HL4 := Aside0.mk (box_later HL.out HB4.out)
      have HX4 := Aside0.mk (box_later HX.out HB4.out)
      have HO4 := Aside0.mk (HO.out.trans (Only.of_below HB4.out))
      have HL5 := Aside0.mk ((Below.heap_setCell w4 ⟨w.heap.size, i + 1, none⟩ (.int .i32 nx) p (by have := HPL.out; dsimp; omega)).trans HL4.out)
      have HX5 := Aside0.mk (blk_store HX4.out (i + 1) nx)
      have HO5 := Aside0.mk (HO4.out.trans_new HPL.out (i + 1) (.int .i32 nx))
      rw [← HNW.out, mix_set (by have := HII.out; omega) HUL.out rfl, HNW.out] at HX5
      clear hs hk hf hsd hkd hfd hs3 hk3 hf3 hs4 hk4 hf4 hs5 hk5 hf5 hoc hoc4 hof4
      try clear hHeld
      go_wp2
      go_roundg g0
      case measure => omega
      case rel => exact ⟨i + 1, by first | rfl | (congr 1; push_cast; rfl), ⟨by have := HG.out; omega⟩, HL5, HX5, HO5⟩
    · obtain rfl : i = 4 := by have := HG.out; omega
      clear hi
      have HX6 := Aside0.mk (show wr.heap[w.heap.size]? = some (.cells (nums .i32 F).toArray 146 (0, 0)) from by have h1 := HX.out; rw [show z5.drop (4 + 1) = [] from rfl, List.append_nil, List.take_of_length_le (by rw [HUL.out]; exact Nat.le_refl _)] at h1; exact h1)
      obtain ⟨f0, f1, f2, f3, f4, h5⟩ := five HUL.out
      have hFA : frontA F = .agg #[.int .i32 f0, .int .i32 f1, .int .i32 f2, .int .i32 f3, .int .i32 f4] := by rw [h5]; rfl
      simp only [hFA] at HMV
      have HFR := Aside0.mk (show frontUp K S x 4 = f4 from by rw [← HUA.out 4 (by decide), h5]; rfl)
      have hcs := fun (W : World) (g : W.heap[w.heap.size]? = some (.cells (nums .i32 F).toArray 146 (0, 0))) (k : Nat) (v : Value) (hv : (nums .i32 F).toArray[k]? = some v) => (blk_cell g k).trans hv
      have HCS := Aside0.mk hcs
      have x0 := hcs _ HX6.out 0 (.int .i32 f0) (by rw [h5]; rfl)
      have x1 := hcs _ HX6.out 1 (.int .i32 f1) (by rw [h5]; rfl)
      have x2 := hcs _ HX6.out 2 (.int .i32 f2) (by rw [h5]; rfl)
      have x3 := hcs _ HX6.out 3 (.int .i32 f3) (by rw [h5]; rfl)
      have x4 := hcs _ HX6.out 4 (.int .i32 f4) (by rw [h5]; rfl)
      have HH5 := Aside0.mk h5
      clear hFA h5 hcs
      go_wp2_with (first | (go_at_call 97; refine (HMV.out _ HL.out).mono ?_; rintro e w3 ⟨rfl, g1, g2⟩; have HL3 := Aside0.mk g1; have HO3 := Aside0.mk (HO.out.trans g2); have HX3 := Aside0.mk ((g2.block w.heap.size (blk_lt HX6.out) (by have := HPL.out; omega)).trans HX6.out); have y0 := HCS.out _ HX3.out 4 (.int .i32 f4) (by rw [HH5.out]; rfl); clear x0 x1 x2 x3 x4 g1 g2))
      rw [HFR.out]
      exact bodyPost_ret (v := .int .i32 f4) (by simp [results, Try.results73, go_sem]) rfl ⟨rfl, HL3.out, HO3.out⟩
set_option maxRecDepth 100000 in
theorem lat_undo.calls (p : Nat) (K S : List Int) (x : Int) (w : World) (hok : LatOk K S) (hx : In32 x) (h : w.heap[p]? = some (.cells (latC K S) 130 (0, 0))) :
    Calls Try.prog 74 #[.pointer (some ⟨p, 0, none⟩), .int .i32 x] w fun e w' => e = .returned (.int .i32 (frontDown K S x 4)) ∧ w'.heap[p]? = some (.cells (latC K (nextS K S (downL K S x))) 130 (0, 0)) ∧ Only w w' p := by
  have HOK := Aside0.mk hok
  have HPL := Aside0.mk (blk_lt h)
  have HMV := Aside0.mk (fun W (g : W.heap[p]? = some (.cells (latC K S) 130 (0, 0))) => lat_move.calls p K S (downL K S x) W hok (downL_length K S x) (fun j hj => by rw [downL_at K S x hj]; exact frontDown_in hx _) g)
  have HUA := Aside0.mk (fun (j : Nat) (hj : j < 5) => downL_at K S x hj)
  have HUL := Aside0.mk (downL_length K S x)
  have HIN := Aside0.mk (fun j => frontDown_in (K := K) (S := S) hx j)
  obtain ⟨F, hF⟩ : ∃ F, F = downL K S x := ⟨_, rfl⟩
  rw [← hF] at HMV HUA HUL ⊢
  clear hF hok hx
  have HLW := Aside0.mk (box_later h (below_alloc (Below.refl w.heap.size w) (.cells (nums .i32 z5).toArray 146)))
  have HON := Aside0.mk (Only.of_below (p := p) (below_alloc (Below.refl w.heap.size w) (.cells (nums .i32 z5).toArray 146)))
  have HBX := Aside0.mk (blk_new w (.cells (nums .i32 z5).toArray 146))
  have HLW2 := Aside0.mk (fun w2 (hb : Below w.heap.size w w2) => box_later h hb)
  clear h
  have HX0 := Aside0.mk (show x = F.getD 4 0 from by rw [HUA.out 4 (by decide)]; rfl)
  go_enter Try.func74, Try.ntmps74
  go_wp2
  have hz : (#[Value.int .i32 0, .int .i32 0, .int .i32 0, .int .i32 0, .int .i32 x] : Array Value) = (nums .i32 (z5.take 4 ++ F.drop 4)).toArray := by
    obtain ⟨g0, g1, g2, g3, g4, hg⟩ := five HUL.out
    rw [HX0.out, hg]; rfl
  rw [hz]
  have hsr := blk_new w (.cells (nums .i32 (z5.take 4 ++ F.drop 4)).toArray 146)
  have hbs := below_alloc (Below.refl w.heap.size w) (.cells (nums .i32 (z5.take 4 ++ F.drop 4)).toArray 146)
  generalize w.alloc (.cells (nums .i32 (z5.take 4 ++ F.drop 4)).toArray 146) = w2 at hsr hbs ⊢
  have HX2 := Aside0.mk hsr
  have HL2 := Aside0.mk (show w2.heap[p]? = some (.cells (latC K S) 130 (0, 0)) from HLW2.out w2 hbs)
  have HO2 := Aside0.mk (Only.of_below (p := p) hbs)
  clear hz
  clear hsr hbs HLW HON HBX HLW2
  go_loopg [6, 9, 10, 11, 12, 13, 14, 15, 16, 17, 18, 19, 20, 21, 22, 23, 24, 25, 26, 27, 28, 29, 30, 31, 32] 4 (fun kq v6 v9 v10 v11 v12 v13 v14 v15 v16 v17 v18 v19 v20 v21 v22 v23 v24 v25 v26 v27 v28 v29 v30 v31 v32 wx => ∃ m : Nat, v6 = .int .i64 ((m : Int) - 1) ∧ Aside0 (kq = m ∧ m ≤ 4) ∧ Aside0 (wx.heap[p]? = some (.cells (latC K S) 130 (0, 0))) ∧ Aside0 (wx.heap[w.heap.size]? = some (.cells (nums .i32 (z5.take m ++ F.drop m)).toArray 146 (0, 0))) ∧ Aside0 (Only w wx p))
  case atStart => exact ⟨4, rfl, ⟨rfl, by decide⟩, ⟨HL2.out⟩, ⟨HX2.out⟩, ⟨HO2.out⟩⟩
  case round =>
    clear HL2 HX2 HO2
    obtain ⟨mm, rfl, HG, HL, HX, HO⟩ := hrel
    by_cases hm0 : 0 < mm
    · obtain ⟨i, rfl⟩ : ∃ i, mm = i + 1 := ⟨mm - 1, by omega⟩
      have hi : i < 4 := by have := HG.out; omega
      rw [show (((i + 1 : Nat) : Int) - 1) = (i : Int) from by omega]
      have hi0 : (0 : Int) ≤ i := by omega
      have hi4 : (i : Int) < 4 := by omega
      have hi5 : (i : Int) < 5 := by omega
      have hj5 : (i : Int) + 1 < 5 := by omega
      have hj0 : (0 : Int) ≤ (i : Int) + 1 := by omega
      have hn5 : i + 1 < 5 := by omega
      have ht1 : ((i : Int) + 1).toNat = i + 1 := by omega
      have hs := lat_s HOK.out.k4 HL.out (j := i) (by rw [HOK.out.s4]; exact hi)
      have hk := lat_k HL.out (j := i) (by rw [HOK.out.k4]; exact hi)
      have hsi := HOK.out.si i hi
      have hki := HOK.out.ki i hi
      have hml : (z5.take (i + 1) ++ F.drop (i + 1)).length = 5 := by rw [List.length_append, List.length_take, List.length_drop, HUL.out]; show min (i + 1) 5 + (5 - (i + 1)) = 5; omega
      have hf := nums_at HX.out (i := i + 1) (by rw [hml]; omega)
      rw [mix_after (n := 5) (Nat.le_refl _) (by omega) rfl HUL.out, HUA.out (i + 1) (by omega)] at hf
      have hoc := nums_at HX.out (i := i) (by rw [hml]; omega)
      have hfi := HIN.out (4 - (i + 1))
      have hnew := HUA.out i (by omega)
      rw [show 4 - i = (4 - (i + 1)) + 1 from by omega, show frontDown K S x (4 - (i + 1) + 1) = subS (frontDown K S x (4 - (i + 1))) (mul15 (S.getD (3 - (4 - (i + 1))) 0) (K.getD (3 - (4 - (i + 1))) 0)) from rfl, show 3 - (4 - (i + 1)) = i from by omega] at hnew
      generalize S.getD i 0 = s at hs hsi hnew
      generalize K.getD i 0 = kk at hk hki hnew
      generalize frontDown K S x (4 - (i + 1)) = f at hf hfi hnew
      obtain ⟨ov, hov⟩ : ∃ ov, ov = (z5.take (i + 1) ++ F.drop (i + 1)).getD i 0 := ⟨_, rfl⟩
      rw [← hov] at hoc
      obtain ⟨m, hm⟩ : ∃ m, m = mul15 s kk := ⟨_, rfl⟩
      have HM := Aside0.mk (show fix_Mul15.f s kk = some m from by rw [hm]; exact Mul_of hsi hki)
      have hmi : In32 m := by rw [hm]; exact mul15_in _ _
      rw [← hm] at hnew
      obtain ⟨nx, hnx⟩ : ∃ nx, nx = subS f m := ⟨_, rfl⟩
      have HA := Aside0.mk (show fix_Sub.f f m = some nx from by rw [hnx]; exact Sub_of hfi hmi)
      rw [← hnx] at hnew
      have HNW := Aside0.mk hnew
      have HII := Aside0.mk hi
      obtain ⟨g0, rfl⟩ : ∃ g0, gk = g0 + 1 := ⟨gk - 1, by have := HG.out; omega⟩
      have hwi : IntKind.i64.wrap ((i : Int) + 1) = (i : Int) + 1 := by rw [i64_w]; unfold wrap64; omega
      have hwd : IntKind.i64.wrap ((i : Int) - 1) = (i : Int) - 1 := by rw [i64_w]; unfold wrap64; omega
      clear hm hnx hnew hsi hki hfi hmi hml hi hov hm0
      go_wp2
      have hsd : wr.drew.cell? ⟨p, 4 + i, none⟩ = some (.int .i32 s) := hs
      have hkd : wr.drew.cell? ⟨p, i, none⟩ = some (.int .i16 kk) := hk
      have hfd : wr.drew.cell? ⟨w.heap.size, i + 1, none⟩ = some (.int .i32 f) := hf
      have HBd := Aside0.mk (below_drew (Below.refl wr.heap.size wr))
      have hs5 : ∀ W : World, W.cell? ⟨p, 4 + i, none⟩ = some (.int .i32 s) → (W.setCell ⟨w.heap.size, i, none⟩ (.int .i32 nx)).cell? ⟨p, 4 + i, none⟩ = some (.int .i32 s) := fun W h => by rw [cell_far W (by have := HPL.out; omega)]; exact h
      have hk5 : ∀ W : World, W.cell? ⟨p, i, none⟩ = some (.int .i16 kk) → (W.setCell ⟨w.heap.size, i, none⟩ (.int .i32 nx)).cell? ⟨p, i, none⟩ = some (.int .i16 kk) := fun W h => by rw [cell_far W (by have := HPL.out; omega)]; exact h
      have hf5 : ∀ W : World, W.cell? ⟨w.heap.size, i + 1, none⟩ = some (.int .i32 f) → (W.setCell ⟨w.heap.size, i, none⟩ (.int .i32 nx)).cell? ⟨w.heap.size, i + 1, none⟩ = some (.int .i32 f) := fun W h => by rw [cell_near W (by omega)]; exact h
      go_region_held3 (fun W => W.cell? ⟨p, 4 + i, none⟩ = some (.int .i32 s) ∧ W.cell? ⟨p, i, none⟩ = some (.int .i16 kk) ∧ W.cell? ⟨w.heap.size, i + 1, none⟩ = some (.int .i32 f)) (first | exact ⟨hs, hk, hf⟩ | exact ⟨hsd, hkd, hfd⟩ | exact ⟨hs3, hk3, hf3⟩ | exact ⟨hs4, hk4, hf4⟩ | exact ⟨hs5 _ hs4, hk5 _ hk4, hf5 _ hf4⟩)
        (first | (go_at_call 96; refine (fix_Mul15.calls s kk m _ HM.out).mono ?_; rintro e w3 ⟨rfl, hb_⟩; obtain ⟨q8, hq8⟩ := hb_.out; have hs3 : w3.cell? ⟨p, 4 + i, none⟩ = some (.int .i32 s) := (by rw [hq8]; exact hs); have hk3 : w3.cell? ⟨p, i, none⟩ = some (.int .i16 kk) := (by rw [hq8]; exact hk); have hf3 : w3.cell? ⟨w.heap.size, i + 1, none⟩ = some (.int .i32 f) := (by rw [hq8]; exact hf); have HB3 := Aside0.mk (show Below wr.heap.size wr w3 from (by rw [hq8]; exact pw_below_drewN HBd.out _)); clear hb_ hq8) | (go_at_call 98; refine (fix_Sub.calls f m nx _ HA.out).mono ?_; rintro e w4 ⟨rfl, hb_⟩; obtain ⟨q8, hq8⟩ := hb_.out; have hs4 : w4.cell? ⟨p, 4 + i, none⟩ = some (.int .i32 s) := (by rw [hq8]; exact hs3); have hk4 : w4.cell? ⟨p, i, none⟩ = some (.int .i16 kk) := (by rw [hq8]; exact hk3); have hf4 : w4.cell? ⟨w.heap.size, i + 1, none⟩ = some (.int .i32 f) := (by rw [hq8]; exact hf3); have HB4 := Aside0.mk (show Below wr.heap.size wr w4 from (by rw [hq8]; exact pw_below_drewN HB3.out _)); have hoc4 : w4.cell? ⟨w.heap.size, i, none⟩ = some (.int .i32 ov) := (by rw [hq8]; exact (HB3.out.cell (World.block_lt_of_cell? _ _ hoc)).trans hoc); have hof4 : w4.frozen? ⟨w.heap.size, i, none⟩ = false := blk_frozen (box_later HX.out HB4.out) _; clear hb_ hq8))
      have HL4 := Aside0.mk (box_later HL.out HB4.out)
      have HX4 := Aside0.mk (box_later HX.out HB4.out)
      have HO4 := Aside0.mk (HO.out.trans (Only.of_below HB4.out))
      have HL5 := Aside0.mk ((Below.heap_setCell w4 ⟨w.heap.size, i, none⟩ (.int .i32 nx) p (by have := HPL.out; dsimp; omega)).trans HL4.out)
      have HX5 := Aside0.mk (blk_store HX4.out i nx)
      have HO5 := Aside0.mk (HO4.out.trans_new HPL.out i (.int .i32 nx))
      rw [← HNW.out, mix_down (n := 5) (by have := HII.out; omega) rfl HUL.out, HNW.out] at HX5
      clear hs hk hf hsd hkd hfd hs3 hk3 hf3 hs4 hk4 hf4 hs5 hk5 hf5 hoc hoc4 hof4
      try clear hHeld
      go_wp2
      go_roundg g0
      case measure => have := HG.out; omega
      case rel => exact ⟨i, by first | rfl | (congr 1; push_cast; rfl), ⟨by have := HG.out; omega, by have := HII.out; omega⟩, HL5, HX5, HO5⟩
    · obtain rfl : mm = 0 := by omega
      clear hm0
      have HX6 := Aside0.mk (show wr.heap[w.heap.size]? = some (.cells (nums .i32 F).toArray 146 (0, 0)) from by have h1 := HX.out; rw [show z5.take 0 = [] from rfl, List.nil_append, List.drop_zero] at h1; exact h1)
      obtain ⟨f0, f1, f2, f3, f4, h5⟩ := five HUL.out
      have hFA : frontA F = .agg #[.int .i32 f0, .int .i32 f1, .int .i32 f2, .int .i32 f3, .int .i32 f4] := by rw [h5]; rfl
      simp only [hFA] at HMV
      have HFR := Aside0.mk (show frontDown K S x 4 = f0 from by rw [← HUA.out 0 (by decide), h5]; rfl)
      have hcs := fun (W : World) (g : W.heap[w.heap.size]? = some (.cells (nums .i32 F).toArray 146 (0, 0))) (k : Nat) (v : Value) (hv : (nums .i32 F).toArray[k]? = some v) => (blk_cell g k).trans hv
      have HCS := Aside0.mk hcs
      have x0 := hcs _ HX6.out 0 (.int .i32 f0) (by rw [h5]; rfl)
      have x1 := hcs _ HX6.out 1 (.int .i32 f1) (by rw [h5]; rfl)
      have x2 := hcs _ HX6.out 2 (.int .i32 f2) (by rw [h5]; rfl)
      have x3 := hcs _ HX6.out 3 (.int .i32 f3) (by rw [h5]; rfl)
      have x4 := hcs _ HX6.out 4 (.int .i32 f4) (by rw [h5]; rfl)
      have HH5 := Aside0.mk h5
      clear hFA h5 hcs
      go_wp2_with (first | (go_at_call 97; refine (HMV.out _ HL.out).mono ?_; rintro e w3 ⟨rfl, g1, g2⟩; have HL3 := Aside0.mk g1; have HO3 := Aside0.mk (HO.out.trans g2); have HX3 := Aside0.mk ((g2.block w.heap.size (blk_lt HX6.out) (by have := HPL.out; omega)).trans HX6.out); have y0 := HCS.out _ HX3.out 0 (.int .i32 f0) (by rw [HH5.out]; rfl); clear x0 x1 x2 x3 x4 g1 g2))
      rw [HFR.out]
      exact bodyPost_ret (v := .int .i32 f0) (by simp [results, Try.results74, go_sem]) rfl ⟨rfl, HL3.out, HO3.out⟩
end Go.Proofs.Ytblehkoonajofaa.PTns
