/- Tns: lines through the lattice. -/
import Derived.Test.YtblehkoonajofaaTnsLat
import Derived.Test.YtblehkoonajofaaFixBaseTns
namespace Go.Proofs.Ytblehkoonajofaa.PTns
open Go.RowKit Go.Proofs.YtblehkoonajofaaW.PrintWords Go.Proofs.YtblehkoonajofaaW.PrintLast Go.Proofs.YtblehkoonajofaaW.PrintMore Go.Proofs.Ytblehkoonajofaa.RowAt
attribute [local go_sem] max2_int min2_int max_two min_two max_three min_three max_four min_four   -- for this text's walks alone
set_option linter.unusedVariables false
set_option linter.unusedSimpArgs false
theorem own_empty {w : World} {e : TypeId} (g : Nat) (hg : w.heap[g]? = some (.cells #[] e (0, 0))) {base : Nat} (hb : base ≤ g) (k : IntKind) : w.ownsRow base e 1 (.slice (some ⟨g, 0, none⟩) 0 0) ([] : List Int).length (nums k []) :=
  own_of_blk (L := []) hb hg rfl (by decide)
theorem info_i32 : (Try.prog.info? 21).map (fun i => (i.zero, i.size, i.bytes)) = some (some (.int .i32 0), 1, 4) := by kernel_rfl
set_option maxRecDepth 100000 in
theorem clone_i32.calls (A : Option Addr) (n c : Nat) (x : List Int) (w : World) (hr : ReadsInt w .i32 A n x) (hn : n ≤ 1000) : Calls Try.prog 94 #[.slice A n c] w fun e w' => ∃ v, e = .returned v ∧ w'.ownsRow w.heap.size 21 1 v x.length (nums .i32 x) ∧ Below w.heap.size w w' := by
  have HR := Aside0.mk hr
  have HX := Aside0.mk hr.1
  cases A with
  | none =>
    have hn0 : n = 0 := by
      rcases Nat.eq_zero_or_pos n with h | h
      · exact h
      · obtain ⟨ad, h2, _⟩ := hr.2.2 h; cases h2
    have hx : x = [] := List.eq_nil_of_length_eq_zero (by rw [hr.1, hn0])
    subst hx
    clear hr hn0
    have hq : ∀ W : World, (binOp .eql 41 (.slice none n c) (.slice none 0 0)).run Try.prog W = .ok (.bool true) W := fun W => Go.Lib.run_eql_slice_nil W 41 21 none n c 0 0 Try.underlying41
    go_enter Try.func94, Try.ntmps94
    go_wp2
    exact bodyPost_ret (v := .slice none 0 0) (by simp [results, Try.results94, go_sem]) rfl ⟨_, rfl, own_nil _ _ _ _, Below.refl _ _⟩
  | some ad =>
    have hq : ∀ W : World, (binOp .eql 41 (.slice (some ad) n c) (.slice none 0 0)).run Try.prog W = .ok (.bool false) W := fun W => Go.Lib.run_eql_slice_nil W 41 21 (some ad) n c 0 0 Try.underlying41
    have HB0 := Aside0.mk (below_alloc (Below.refl w.heap.size w) (.cells #[] 21))
    have HO0 := Aside0.mk (own_empty w.heap.size (blk_new w (.cells #[] 21)) (Nat.le_refl _) .i32)
    have HR0 := Aside0.mk (reads_below hr HB0.out)
    have HNL := Aside0.mk hn
    clear hr hn
    go_enter Try.func94, Try.ntmps94
    go_wp2_with (first | (at_builtin; refine print_append_row (w0 := w) w.heap.size rfl (.tmp 5) (.tmp 6) 41 21 .i32 4 rfl Try.underlying41 info_i32 (by decide) (.slice (some ⟨w.heap.size, 0, none⟩) 0 0) [] x (some ad) n c rfl rfl HO0.out HR0.out HB0.out (below_size HB0.out) (by have := HNL.out; simp; omega) ?_; intro v1 w1 g1 g2 g3 g4; have HO1 := Aside0.mk g1; have HB1 := Aside0.mk g2; clear g1 g2 g3 g4))
    exact bodyPost_ret (v := v1) (by simp [results, Try.results94, go_sem]) rfl ⟨_, rfl, HO1.out, HB1.out⟩
theorem info_i64 : (Try.prog.info? 2).map (fun i => (i.zero, i.size, i.bytes)) = some (some (.int .i64 0), 1, 8) := by kernel_rfl
set_option maxRecDepth 100000 in
theorem clone_i64.calls (A : Option Addr) (n c : Nat) (x : List Int) (w : World) (hr : ReadsInt w .i64 A n x) (hn : n ≤ 1000) : Calls Try.prog 67 #[.slice A n c] w fun e w' => ∃ v, e = .returned v ∧ w'.ownsRow w.heap.size 2 1 v x.length (nums .i64 x) ∧ Below w.heap.size w w' := by
  have HR := Aside0.mk hr
  have HX := Aside0.mk hr.1
  cases A with
  | none =>
    have hn0 : n = 0 := by
      rcases Nat.eq_zero_or_pos n with h | h
      · exact h
      · obtain ⟨ad, h2, _⟩ := hr.2.2 h; cases h2
    have hx : x = [] := List.eq_nil_of_length_eq_zero (by rw [hr.1, hn0])
    subst hx
    clear hr hn0
    have hq : ∀ W : World, (binOp .eql 26 (.slice none n c) (.slice none 0 0)).run Try.prog W = .ok (.bool true) W := fun W => Go.Lib.run_eql_slice_nil W 26 2 none n c 0 0 Try.underlying26
    go_enter Try.func67, Try.ntmps67
    go_wp2
    exact bodyPost_ret (v := .slice none 0 0) (by simp [results, Try.results67, go_sem]) rfl ⟨_, rfl, own_nil _ _ _ _, Below.refl _ _⟩
  | some ad =>
    have hq : ∀ W : World, (binOp .eql 26 (.slice (some ad) n c) (.slice none 0 0)).run Try.prog W = .ok (.bool false) W := fun W => Go.Lib.run_eql_slice_nil W 26 2 (some ad) n c 0 0 Try.underlying26
    have HB0 := Aside0.mk (below_alloc (Below.refl w.heap.size w) (.cells #[] 2))
    have HO0 := Aside0.mk (own_empty w.heap.size (blk_new w (.cells #[] 2)) (Nat.le_refl _) .i64)
    have HR0 := Aside0.mk (reads_below hr HB0.out)
    have HNL := Aside0.mk hn
    clear hr hn
    go_enter Try.func67, Try.ntmps67
    go_wp2_with (first | (at_builtin; refine print_append_row (w0 := w) w.heap.size rfl (.tmp 5) (.tmp 6) 26 2 .i64 8 rfl Try.underlying26 info_i64 (by decide) (.slice (some ⟨w.heap.size, 0, none⟩) 0 0) [] x (some ad) n c rfl rfl HO0.out HR0.out HB0.out (below_size HB0.out) (by have := HNL.out; simp; omega) ?_; intro v1 w1 g1 g2 g3 g4; have HO1 := Aside0.mk g1; have HB1 := Aside0.mk g2; clear g1 g2 g3 g4))
    exact bodyPost_ret (v := v1) (by simp [results, Try.results67, go_sem]) rfl ⟨_, rfl, HO1.out, HB1.out⟩
theorem info_i16 : (Try.prog.info? 33).map (fun i => (i.zero, i.size, i.bytes)) = some (some (.int .i16 0), 1, 2) := by kernel_rfl
set_option maxRecDepth 100000 in
theorem clone_i16.calls (A : Option Addr) (n c : Nat) (x : List Int) (w : World) (hr : ReadsInt w .i16 A n x) (hn : n ≤ 1000) : Calls Try.prog 79 #[.slice A n c] w fun e w' => ∃ v, e = .returned v ∧ w'.ownsRow w.heap.size 33 1 v x.length (nums .i16 x) ∧ Below w.heap.size w w' := by
  have HR := Aside0.mk hr
  have HX := Aside0.mk hr.1
  cases A with
  | none =>
    have hn0 : n = 0 := by
      rcases Nat.eq_zero_or_pos n with h | h
      · exact h
      · obtain ⟨ad, h2, _⟩ := hr.2.2 h; cases h2
    have hx : x = [] := List.eq_nil_of_length_eq_zero (by rw [hr.1, hn0])
    subst hx
    clear hr hn0
    have hq : ∀ W : World, (binOp .eql 27 (.slice none n c) (.slice none 0 0)).run Try.prog W = .ok (.bool true) W := fun W => Go.Lib.run_eql_slice_nil W 27 33 none n c 0 0 Try.underlying27
    go_enter Try.func79, Try.ntmps79
    go_wp2
    exact bodyPost_ret (v := .slice none 0 0) (by simp [results, Try.results79, go_sem]) rfl ⟨_, rfl, own_nil _ _ _ _, Below.refl _ _⟩
  | some ad =>
    have hq : ∀ W : World, (binOp .eql 27 (.slice (some ad) n c) (.slice none 0 0)).run Try.prog W = .ok (.bool false) W := fun W => Go.Lib.run_eql_slice_nil W 27 33 (some ad) n c 0 0 Try.underlying27
    have HB0 := Aside0.mk (below_alloc (Below.refl w.heap.size w) (.cells #[] 33))
    have HO0 := Aside0.mk (own_empty w.heap.size (blk_new w (.cells #[] 33)) (Nat.le_refl _) .i16)
    have HR0 := Aside0.mk (reads_below hr HB0.out)
    have HNL := Aside0.mk hn
    clear hr hn
    go_enter Try.func79, Try.ntmps79
    go_wp2_with (first | (at_builtin; refine print_append_row (w0 := w) w.heap.size rfl (.tmp 5) (.tmp 6) 27 33 .i16 2 rfl Try.underlying27 info_i16 (by decide) (.slice (some ⟨w.heap.size, 0, none⟩) 0 0) [] x (some ad) n c rfl rfl HO0.out HR0.out HB0.out (below_size HB0.out) (by have := HNL.out; simp; omega) ?_; intro v1 w1 g1 g2 g3 g4; have HO1 := Aside0.mk g1; have HB1 := Aside0.mk g2; clear g1 g2 g3 g4))
    exact bodyPost_ret (v := v1) (by simp [results, Try.results79, go_sem]) rfl ⟨_, rfl, HO1.out, HB1.out⟩
def In16K (K : List Int) : Prop := K.length = 4 ∧ ∀ j, j < 4 → In16 (K.getD j 0)
def stUp (K x : List Int) : Nat → List Int
  | 0 => z4
  | i+1 => nextS K (stUp K x i) (upL K (stUp K x i) (x.getD i 0))
def outUp (K x : List Int) (i : Nat) : Int := frontUp K (stUp K x i) (x.getD i 0) 4
def upLines (K x : List Int) : List Int := (List.range x.length).map (outUp K x)
def stDown (K x : List Int) : Nat → List Int
  | 0 => z4
  | i+1 => nextS K (stDown K x i) (downL K (stDown K x i) (x.getD i 0))
def outDown (K x : List Int) (i : Nat) : Int := frontDown K (stDown K x i) (x.getD i 0) 4
def downLines (K x : List Int) : List Int := (List.range x.length).map (outDown K x)
theorem upLines_length (K x : List Int) : (upLines K x).length = x.length := by simp [upLines]
theorem downLines_length (K x : List Int) : (downLines K x).length = x.length := by simp [downLines]
theorem upLines_at (K x : List Int) {i : Nat} (hi : i < x.length) : (upLines K x).getD i 0 = outUp K x i := by
  rw [upLines, List.getD_eq_getElem?_getD, List.getElem?_map, List.getElem?_range hi]; rfl
theorem downLines_at (K x : List Int) {i : Nat} (hi : i < x.length) : (downLines K x).getD i 0 = outDown K x i := by
  rw [downLines, List.getD_eq_getElem?_getD, List.getElem?_map, List.getElem?_range hi]; rfl
theorem nextS_in {K S F : List Int} (h0 : In32 (F.getD 0 0)) : ∀ j, j < 4 → In32 ((nextS K S F).getD j 0) := by
  intro j hj
  rw [nextS_at K S F hj]
  cases j with
  | zero => exact h0
  | succ j => exact addS_in _ _
theorem stUp_ok {K x : List Int} (hK : In16K K) (hx : ∀ i, In32 (x.getD i 0)) : ∀ i, LatOk K (stUp K x i)
  | 0 => ⟨hK.1, rfl, hK.2, by unfold stUp In32; decide⟩
  | i+1 => ⟨hK.1, nextS_length _ _ _, hK.2, nextS_in (by rw [upL_at _ _ _ (by decide)]; exact frontUp_in (hx i) _)⟩
theorem stDown_ok {K x : List Int} (hK : In16K K) (hx : ∀ i, In32 (x.getD i 0)) : ∀ i, LatOk K (stDown K x i)
  | 0 => ⟨hK.1, rfl, hK.2, by unfold stDown In32; decide⟩
  | i+1 => ⟨hK.1, nextS_length _ _ _, hK.2, nextS_in (by rw [downL_at _ _ _ (by decide)]; exact frontDown_in (hx i) _)⟩
theorem partsL_in {x : List Int} (hx : x.length = 4) (hk : ∀ j, j < 4 → 0 ≤ x.getD j 0 ∧ x.getD j 0 ≤ 16) : In16K (partsL x) := by
  refine ⟨by unfold partsL; rw [List.length_map, hx], fun j hj => ?_⟩
  have : (partsL x).getD j 0 = partV (x.getD j 0) := by
    unfold partsL; rw [List.getD_eq_getElem?_getD, List.getElem?_map, List.getD_eq_getElem?_getD, List.getElem?_eq_getElem (by omega)]; rfl
  rw [this]
  exact (part_of (hk j hj).1 (hk j hj).2).2
set_option maxRecDepth 100000 in
theorem tns_through_run.calls (A : Option Addr) (c : Nat) (x a : List Int) (w : World) (hr : ReadsInt w .i32 A x.length x) (hn : x.length ≤ 120) (hx : ∀ i, In32 (x.getD i 0)) (ha : a.length = 4) (hk : okFilt 1 a) :
    Calls Try.prog 72 #[.slice A x.length c, filtV 1 a, .func (.func 73) #[] #[]] w fun e w' => ∃ v, e = .returned (.tuple #[v, .int .i64 0]) ∧ w'.ownsRow w.heap.size 21 1 v x.length (nums .i32 (upLines (partsL a) x)) ∧ Below w.heap.size w w' := by
  have hk16 : ∀ j, j < 4 → 0 ≤ a.getD j 0 ∧ a.getD j 0 ≤ 16 := fun j hj => by have := hk.2 j hj; omega
  have HCH := Aside0.mk (fun w_ => tns_Check.calls 1 a ha 0 ⟨by rw [if_pos hk]⟩ w_)
  have HOF := Aside0.mk (fun w_ => tns_of.calls 1 a ha hk16 w_)
  have HST := Aside0.mk (stUp_ok (partsL_in ha hk16) hx)
  have HXI := Aside0.mk hx
  have HTA := Aside0.mk (fun i hi => upLines_at (partsL a) x (i := i) hi)
  have HTL := Aside0.mk (upLines_length (partsL a) x)
  have HSS := Aside0.mk (show ∀ i, stUp (partsL a) x (i + 1) = nextS (partsL a) (stUp (partsL a) x i) (upL (partsL a) (stUp (partsL a) x i) (x.getD i 0)) from fun i => rfl)
  have HS0 := Aside0.mk (show stUp (partsL a) x 0 = z4 from rfl)
  have HOT := Aside0.mk (show ∀ i, outUp (partsL a) x i = frontUp (partsL a) (stUp (partsL a) x i) (x.getD i 0) 4 from fun i => rfl)
  obtain ⟨T, hT⟩ : ∃ T, T = upLines (partsL a) x := ⟨_, rfl⟩
  rw [← hT] at HTA HTL ⊢
  obtain ⟨K, hK⟩ : ∃ K, K = partsL a := ⟨_, rfl⟩
  rw [← hK] at HOF HST HTA HSS HS0 HOT
  have HR := Aside0.mk hr
  have HN := Aside0.mk hn
  have q0 : ¬ (120 : Int) < (x.length : Int) := by omega
  obtain ⟨a0, a1, a2, a3, rfl⟩ := four ha
  clear hr hn hx ha hk hk16 hT hK
  have HBB := Aside0.mk (below_alloc (Below.refl w.heap.size w) (.cells #[.int .i64 1, .int .i64 a0, .int .i64 a1, .int .i64 a2, .int .i64 a3] 60))
  have HBX := Aside0.mk (blk_new w (.cells #[.int .i64 1, .int .i64 a0, .int .i64 a1, .int .i64 a2, .int .i64 a3] 60))
  simp only [filtV_eq] at HCH HOF ⊢
  go_enter Try.func72, Try.ntmps72
  go_wp2_with (first | (go_at_call 32; refine (HCH.out _).mono ?_; rintro e w2 ⟨rfl, hb_⟩; have HB2 := Aside0.mk (below_step HBB.out hb_); have HX2 := Aside0.mk (box_later HBX.out hb_); clear hb_) | (go_at_call 94; refine (clone_i32.calls A x.length c x _ (reads_below HR.out HB2.out) (by have := HN.out; omega)).mono ?_; rintro e w3 ⟨v3, rfl, g1, hb_⟩; have HB3 := Aside0.mk (below_step HB2.out hb_); have HX3 := Aside0.mk (box_later HX2.out hb_); have HO3 := Aside0.mk (own_lower g1 (below_size HB2.out)); have x0 := (blk_cell HX3.out 0).trans rfl; have x1 := (blk_cell HX3.out 1).trans rfl; have x2 := (blk_cell HX3.out 2).trans rfl; have x3 := (blk_cell HX3.out 3).trans rfl; have x4 := (blk_cell HX3.out 4).trans rfl; clear g1 hb_) | (go_at_call 78; refine (HOF.out _).mono ?_; rintro e w4 ⟨p, rfl, hp_, hl_, hb_⟩; have HB4 := Aside0.mk (below_step HB3.out hb_); have HO4 := Aside0.mk (HO3.out.kept (grown_of_below hb_ none) (by cases Value.ownBlock _ <;> simp)); have HPP := Aside0.mk (And.intro (below_size HB3.out) hp_); have HL4 := Aside0.mk hl_; obtain ⟨A4, c4, rfl⟩ := own_slice HO4.out; clear x0 x1 x2 x3 x4 hb_ hp_ hl_))
  rw [HR.out.1] at HO4
  have HGP := Aside0.mk (fun g h => (HO3.out.lt g h).2)
  have HL4 := Aside0.mk (show w4.heap[p]? = some (.cells (latC K (stUp K x 0)) 130 (0, 0)) from by rw [HS0.out]; exact HL4.out)
  clear HO3 HX3 HX2 HB2 HB3 HBB HBX HCH HOF HS0
  go_loopg [11, 12, 31, 32, 33, 34, 35, 36, 37, 38, 39, 40, 41, 42, 43] x.length (fun kq v11 v12 v31 v32 v33 v34 v35 v36 v37 v38 v39 v40 v41 v42 v43 wx => ∃ i : Nat, v31 = .int .i64 (i : Int) ∧ Aside0 (kq + i = x.length) ∧ Aside0 (wx.ownsRow w.heap.size 21 1 (.slice A4 x.length c4) x.length (nums .i32 (T.take i ++ x.drop i))) ∧ Aside0 (wx.heap[p]? = some (.cells (latC K (stUp K x i)) 130 (0, 0))) ∧ Aside0 (Below w.heap.size w wx))
  case atStart => exact ⟨0, rfl, ⟨rfl⟩, ⟨HO4.out⟩, ⟨HL4.out⟩, ⟨HB4.out⟩⟩
  case round =>
    clear HO4 HL4 HB4
    obtain ⟨i, rfl, HG, HO, HL, HB⟩ := hrel
    by_cases hi : i < x.length
    · have hi0 : (0 : Int) ≤ i := by omega
      have hin : (i : Int) < (x.length : Int) := by omega
      obtain ⟨g, eA⟩ : ∃ g, A4 = some ⟨g, 0, none⟩ := by
        rcases HO.out.2 with ⟨h, _⟩ | ⟨g, cap, cur, h, _⟩
        · injection h with h1 h2 h3; omega
        · injection h with h1 h2 h3; exact ⟨g, h1⟩
      subst eA
      have hgp := HGP.out g rfl
      have hml : (T.take i ++ x.drop i).length = x.length := by rw [List.length_append, List.length_take, List.length_drop, HTL.out]; omega
      have hc := HO.out.cellAt i (by omega)
      rw [nums, List.getElem?_map, List.getElem?_eq_getElem (by omega)] at hc
      have hce : (T.take i ++ x.drop i)[i]'(by omega) = x.getD i 0 := by
        have h := mix_at hi HTL.out (rfl : x.length = x.length)
        rwa [List.getD_eq_getElem?_getD, List.getElem?_eq_getElem (by omega)] at h
      simp only [Option.map_some, hce] at hc
      have hta := HTA.out i hi
      rw [HOT.out i] at hta
      have HRN := Aside0.mk (fun W (g1 : W.heap[p]? = some (.cells (latC K (stUp K x i)) 130 (0, 0))) => lat_run.calls p K (stUp K x i) (x.getD i 0) W (HST.out i) (HXI.out i) g1)
      rw [← hta, ← HSS.out i] at HRN
      have HTI := Aside0.mk (rfl : T.getD i 0 = T.getD i 0)
      generalize x.getD i 0 = xi at hc HRN
      obtain ⟨ti, hti⟩ : ∃ ti, ti = T.getD i 0 := ⟨_, rfl⟩
      rw [← hti] at HRN
      have HTE := Aside0.mk hti
      have HII := Aside0.mk hi
      have HHG := Aside0.mk hgp
      obtain ⟨g0, rfl⟩ : ∃ g0, gk = g0 + 1 := ⟨gk - 1, by have := HG.out; omega⟩
      have hwi : IntKind.i64.wrap ((i : Int) + 1) = ((i + 1 : Nat) : Int) := by rw [i64_w]; unfold wrap64; have := HN.out; omega
      clear hml hce hta hti hi hgp HTI
      go_wp2_with (first | (go_at_call 73; refine (HRN.out _ HL.out).mono ?_; rintro e w5 ⟨rfl, g1, g2⟩; have HL5 := Aside0.mk g1; have HB5 := Aside0.mk (g2.below HB.out (below_size HB.out) (by have h1 := HPP.out; omega)); have HO5 := Aside0.mk (own_move HO.out (fun b hb => g2.block b (own_lt HO.out b hb) (by have h1 := HPP.out; have h2 := HHG.out; have h3 : g = b := Option.some.inj hb; omega))); have hoc5 : (w5.cell? ⟨g, i, none⟩).isSome = true := (by rw [HO5.out.cellAt i (by have := HII.out; omega), nums, List.getElem?_map, List.getElem?_eq_getElem (by rw [List.length_append, List.length_take, List.length_drop, HTL.out]; have := HII.out; omega)]; rfl); have hof5 : w5.frozen? ⟨g, i, none⟩ = false := HO5.out.frozenAt i; obtain ⟨ov, hov⟩ := Option.isSome_iff_exists.1 hoc5; clear g1 g2 hoc5 hc))
      have HO6 := Aside0.mk (show (w5.setCell ⟨g, i, none⟩ (.int .i32 ti)).ownsRow w.heap.size 21 1 (.slice (some ⟨g, 0, none⟩) x.length c4) x.length (nums .i32 (T.take (i + 1) ++ x.drop (i + 1))) from by
        have h := (HO5.out.stored i (.int .i32 ti)).1
        rw [show (nums .i32 (T.take i ++ x.drop i)).set i (.int .i32 ti) = nums .i32 ((T.take i ++ x.drop i).set i ti) from by simp [nums, List.map_set], HTE.out, mix_set HII.out HTL.out rfl] at h
        rw [← HTE.out] at h
        exact h)
      have HB6 := Aside0.mk (HB5.out.setCell (p := ⟨g, i, none⟩) (by dsimp; have := (HO5.out.lt g rfl).1; exact this) (.int .i32 ti))
      have HL6 := Aside0.mk ((Below.heap_setCell w5 ⟨g, i, none⟩ (.int .i32 ti) p (by dsimp; have h1 := HPP.out; have h2 := HHG.out; omega)).trans HL5.out)
      clear hov hof5
      go_roundg g0
      case measure => omega
      case rel => exact ⟨i + 1, by first | rfl | (congr 1; push_cast; rfl), ⟨by have := HG.out; omega⟩, HO6, HL6, HB6⟩
    · obtain rfl : i = x.length := by have := HG.out; omega
      have HO7 := Aside0.mk (show wr.ownsRow w.heap.size 21 1 (.slice A4 x.length c4) x.length (nums .i32 T) from by have h1 := HO.out; rw [List.drop_eq_nil_of_le (Nat.le_refl _), List.append_nil, List.take_of_length_le (by rw [HTL.out]; exact Nat.le_refl _)] at h1; exact h1)
      have hin : ¬ ((x.length : Int) < (x.length : Int)) := by omega
      clear hi
      go_wp2
      exact bodyPost_ret (v := .tuple #[.slice A4 x.length c4, .int .i64 0]) (by simp [results, Try.results72, go_sem]) rfl ⟨_, rfl, HO7.out, HB.out⟩
set_option maxRecDepth 100000 in
theorem tns_through_undo.calls (A : Option Addr) (c : Nat) (x a : List Int) (w : World) (hr : ReadsInt w .i32 A x.length x) (hn : x.length ≤ 120) (hx : ∀ i, In32 (x.getD i 0)) (ha : a.length = 4) (hk : okFilt 1 a) :
    Calls Try.prog 72 #[.slice A x.length c, filtV 1 a, .func (.func 74) #[] #[]] w fun e w' => ∃ v, e = .returned (.tuple #[v, .int .i64 0]) ∧ w'.ownsRow w.heap.size 21 1 v x.length (nums .i32 (downLines (partsL a) x)) ∧ Below w.heap.size w w' := by
  have hk16 : ∀ j, j < 4 → 0 ≤ a.getD j 0 ∧ a.getD j 0 ≤ 16 := fun j hj => by have := hk.2 j hj; omega
  have HCH := Aside0.mk (fun w_ => tns_Check.calls 1 a ha 0 ⟨by rw [if_pos hk]⟩ w_)
  have HOF := Aside0.mk (fun w_ => tns_of.calls 1 a ha hk16 w_)
  have HST := Aside0.mk (stDown_ok (partsL_in ha hk16) hx)
  have HXI := Aside0.mk hx
  have HTA := Aside0.mk (fun i hi => downLines_at (partsL a) x (i := i) hi)
  have HTL := Aside0.mk (downLines_length (partsL a) x)
  have HSS := Aside0.mk (show ∀ i, stDown (partsL a) x (i + 1) = nextS (partsL a) (stDown (partsL a) x i) (downL (partsL a) (stDown (partsL a) x i) (x.getD i 0)) from fun i => rfl)
  have HS0 := Aside0.mk (show stDown (partsL a) x 0 = z4 from rfl)
  have HOT := Aside0.mk (show ∀ i, outDown (partsL a) x i = frontDown (partsL a) (stDown (partsL a) x i) (x.getD i 0) 4 from fun i => rfl)
  obtain ⟨T, hT⟩ : ∃ T, T = downLines (partsL a) x := ⟨_, rfl⟩
  rw [← hT] at HTA HTL ⊢
  obtain ⟨K, hK⟩ : ∃ K, K = partsL a := ⟨_, rfl⟩
  rw [← hK] at HOF HST HTA HSS HS0 HOT
  have HR := Aside0.mk hr
  have HN := Aside0.mk hn
  have q0 : ¬ (120 : Int) < (x.length : Int) := by omega
  obtain ⟨a0, a1, a2, a3, rfl⟩ := four ha
  clear hr hn hx ha hk hk16 hT hK
  have HBB := Aside0.mk (below_alloc (Below.refl w.heap.size w) (.cells #[.int .i64 1, .int .i64 a0, .int .i64 a1, .int .i64 a2, .int .i64 a3] 60))
  have HBX := Aside0.mk (blk_new w (.cells #[.int .i64 1, .int .i64 a0, .int .i64 a1, .int .i64 a2, .int .i64 a3] 60))
  simp only [filtV_eq] at HCH HOF ⊢
  go_enter Try.func72, Try.ntmps72
  go_wp2_with (first | (go_at_call 32; refine (HCH.out _).mono ?_; rintro e w2 ⟨rfl, hb_⟩; have HB2 := Aside0.mk (below_step HBB.out hb_); have HX2 := Aside0.mk (box_later HBX.out hb_); clear hb_) | (go_at_call 94; refine (clone_i32.calls A x.length c x _ (reads_below HR.out HB2.out) (by have := HN.out; omega)).mono ?_; rintro e w3 ⟨v3, rfl, g1, hb_⟩; have HB3 := Aside0.mk (below_step HB2.out hb_); have HX3 := Aside0.mk (box_later HX2.out hb_); have HO3 := Aside0.mk (own_lower g1 (below_size HB2.out)); have x0 := (blk_cell HX3.out 0).trans rfl; have x1 := (blk_cell HX3.out 1).trans rfl; have x2 := (blk_cell HX3.out 2).trans rfl; have x3 := (blk_cell HX3.out 3).trans rfl; have x4 := (blk_cell HX3.out 4).trans rfl; clear g1 hb_) | (go_at_call 78; refine (HOF.out _).mono ?_; rintro e w4 ⟨p, rfl, hp_, hl_, hb_⟩; have HB4 := Aside0.mk (below_step HB3.out hb_); have HO4 := Aside0.mk (HO3.out.kept (grown_of_below hb_ none) (by cases Value.ownBlock _ <;> simp)); have HPP := Aside0.mk (And.intro (below_size HB3.out) hp_); have HL4 := Aside0.mk hl_; obtain ⟨A4, c4, rfl⟩ := own_slice HO4.out; clear x0 x1 x2 x3 x4 hb_ hp_ hl_))
  rw [HR.out.1] at HO4
  have HGP := Aside0.mk (fun g h => (HO3.out.lt g h).2)
  have HL4 := Aside0.mk (show w4.heap[p]? = some (.cells (latC K (stDown K x 0)) 130 (0, 0)) from by rw [HS0.out]; exact HL4.out)
  clear HO3 HX3 HX2 HB2 HB3 HBB HBX HCH HOF HS0
  go_loopg [11, 12, 31, 32, 33, 34, 35, 36, 37, 38, 39, 40, 41, 42, 43] x.length (fun kq v11 v12 v31 v32 v33 v34 v35 v36 v37 v38 v39 v40 v41 v42 v43 wx => ∃ i : Nat, v31 = .int .i64 (i : Int) ∧ Aside0 (kq + i = x.length) ∧ Aside0 (wx.ownsRow w.heap.size 21 1 (.slice A4 x.length c4) x.length (nums .i32 (T.take i ++ x.drop i))) ∧ Aside0 (wx.heap[p]? = some (.cells (latC K (stDown K x i)) 130 (0, 0))) ∧ Aside0 (Below w.heap.size w wx))
  case atStart => exact ⟨0, rfl, ⟨rfl⟩, ⟨HO4.out⟩, ⟨HL4.out⟩, ⟨HB4.out⟩⟩
  case round =>
    clear HO4 HL4 HB4
    obtain ⟨i, rfl, HG, HO, HL, HB⟩ := hrel
    by_cases hi : i < x.length
    · have hi0 : (0 : Int) ≤ i := by omega
      have hin : (i : Int) < (x.length : Int) := by omega
      obtain ⟨g, eA⟩ : ∃ g, A4 = some ⟨g, 0, none⟩ := by
        rcases HO.out.2 with ⟨h, _⟩ | ⟨g, cap, cur, h, _⟩
        · injection h with h1 h2 h3; omega
        · injection h with h1 h2 h3; exact ⟨g, h1⟩
      subst eA
      have hgp := HGP.out g rfl
      have hml : (T.take i ++ x.drop i).length = x.length := by rw [List.length_append, List.length_take, List.length_drop, HTL.out]; omega
      have hc := HO.out.cellAt i (by omega)
      rw [nums, List.getElem?_map, List.getElem?_eq_getElem (by omega)] at hc
      have hce : (T.take i ++ x.drop i)[i]'(by omega) = x.getD i 0 := by
        have h := mix_at hi HTL.out (rfl : x.length = x.length)
        rwa [List.getD_eq_getElem?_getD, List.getElem?_eq_getElem (by omega)] at h
      simp only [Option.map_some, hce] at hc
      have hta := HTA.out i hi
      rw [HOT.out i] at hta
      have HRN := Aside0.mk (fun W (g1 : W.heap[p]? = some (.cells (latC K (stDown K x i)) 130 (0, 0))) => lat_undo.calls p K (stDown K x i) (x.getD i 0) W (HST.out i) (HXI.out i) g1)
      rw [← hta, ← HSS.out i] at HRN
      have HTI := Aside0.mk (rfl : T.getD i 0 = T.getD i 0)
      generalize x.getD i 0 = xi at hc HRN
      obtain ⟨ti, hti⟩ : ∃ ti, ti = T.getD i 0 := ⟨_, rfl⟩
      rw [← hti] at HRN
      have HTE := Aside0.mk hti
      have HII := Aside0.mk hi
      have HHG := Aside0.mk hgp
      obtain ⟨g0, rfl⟩ : ∃ g0, gk = g0 + 1 := ⟨gk - 1, by have := HG.out; omega⟩
      have hwi : IntKind.i64.wrap ((i : Int) + 1) = ((i + 1 : Nat) : Int) := by rw [i64_w]; unfold wrap64; have := HN.out; omega
      clear hml hce hta hti hi hgp HTI
      go_wp2_with (first | (go_at_call 74; refine (HRN.out _ HL.out).mono ?_; rintro e w5 ⟨rfl, g1, g2⟩; have HL5 := Aside0.mk g1; have HB5 := Aside0.mk (g2.below HB.out (below_size HB.out) (by have h1 := HPP.out; omega)); have HO5 := Aside0.mk (own_move HO.out (fun b hb => g2.block b (own_lt HO.out b hb) (by have h1 := HPP.out; have h2 := HHG.out; have h3 : g = b := Option.some.inj hb; omega))); have hoc5 : (w5.cell? ⟨g, i, none⟩).isSome = true := (by rw [HO5.out.cellAt i (by have := HII.out; omega), nums, List.getElem?_map, List.getElem?_eq_getElem (by rw [List.length_append, List.length_take, List.length_drop, HTL.out]; have := HII.out; omega)]; rfl); have hof5 : w5.frozen? ⟨g, i, none⟩ = false := HO5.out.frozenAt i; obtain ⟨ov, hov⟩ := Option.isSome_iff_exists.1 hoc5; clear g1 g2 hoc5 hc))
      have HO6 := Aside0.mk (show (w5.setCell ⟨g, i, none⟩ (.int .i32 ti)).ownsRow w.heap.size 21 1 (.slice (some ⟨g, 0, none⟩) x.length c4) x.length (nums .i32 (T.take (i + 1) ++ x.drop (i + 1))) from by
        have h := (HO5.out.stored i (.int .i32 ti)).1
        rw [show (nums .i32 (T.take i ++ x.drop i)).set i (.int .i32 ti) = nums .i32 ((T.take i ++ x.drop i).set i ti) from by simp [nums, List.map_set], HTE.out, mix_set HII.out HTL.out rfl] at h
        rw [← HTE.out] at h
        exact h)
      have HB6 := Aside0.mk (HB5.out.setCell (p := ⟨g, i, none⟩) (by dsimp; have := (HO5.out.lt g rfl).1; exact this) (.int .i32 ti))
      have HL6 := Aside0.mk ((Below.heap_setCell w5 ⟨g, i, none⟩ (.int .i32 ti) p (by dsimp; have h1 := HPP.out; have h2 := HHG.out; omega)).trans HL5.out)
      clear hov hof5
      go_roundg g0
      case measure => omega
      case rel => exact ⟨i + 1, by first | rfl | (congr 1; push_cast; rfl), ⟨by have := HG.out; omega⟩, HO6, HL6, HB6⟩
    · obtain rfl : i = x.length := by have := HG.out; omega
      have HO7 := Aside0.mk (show wr.ownsRow w.heap.size 21 1 (.slice A4 x.length c4) x.length (nums .i32 T) from by have h1 := HO.out; rw [List.drop_eq_nil_of_le (Nat.le_refl _), List.append_nil, List.take_of_length_le (by rw [HTL.out]; exact Nat.le_refl _)] at h1; exact h1)
      have hin : ¬ ((x.length : Int) < (x.length : Int)) := by omega
      clear hi
      go_wp2
      exact bodyPost_ret (v := .tuple #[.slice A4 x.length c4, .int .i64 0]) (by simp [results, Try.results72, go_sem]) rfl ⟨_, rfl, HO7.out, HB.out⟩
set_option maxRecDepth 100000 in
theorem tns_through.long (fv : Value) (A : Option Addr) (c : Nat) (x a : List Int) (on : Int) (w : World) (ha : a.length = 4) (hn : 120 < x.length) :
    Calls Try.prog 72 #[.slice A x.length c, filtV on a, fv] w fun e w' => e = .returned (.tuple #[.slice none 0 0, .int .i64 2]) ∧ Below w.heap.size w w' := by
  have q0 : (120 : Int) < (x.length : Int) := by omega
  clear hn
  obtain ⟨a0, a1, a2, a3, rfl⟩ := four ha
  clear ha
  have HBB := Aside0.mk (below_alloc (Below.refl w.heap.size w) (.cells #[.int .i64 on, .int .i64 a0, .int .i64 a1, .int .i64 a2, .int .i64 a3] 60))
  have HBX := Aside0.mk (blk_new w (.cells #[.int .i64 on, .int .i64 a0, .int .i64 a1, .int .i64 a2, .int .i64 a3] 60))
  simp only [filtV_eq]
  go_enter Try.func72, Try.ntmps72
  go_wp2
  exact bodyPost_ret (v := .tuple #[.slice none 0 0, .int .i64 2]) (by simp [results, Try.results72, go_sem]) rfl ⟨rfl, HBB.out⟩
set_option maxRecDepth 100000 in
theorem tns_through.bad (fv : Value) (A : Option Addr) (c : Nat) (x a : List Int) (on : Int) (w : World) (ha : a.length = 4) (hn : ¬ 120 < x.length) (hk : ¬ okFilt on a) :
    Calls Try.prog 72 #[.slice A x.length c, filtV on a, fv] w fun e w' => e = .returned (.tuple #[.slice none 0 0, .int .i64 1]) ∧ Below w.heap.size w w' := by
  have q0 : ¬ (120 : Int) < (x.length : Int) := by omega
  have HCH := Aside0.mk (fun w_ => tns_Check.calls on a ha 1 ⟨by rw [if_neg hk]⟩ w_)
  clear hn hk
  obtain ⟨a0, a1, a2, a3, rfl⟩ := four ha
  clear ha
  have HBB := Aside0.mk (below_alloc (Below.refl w.heap.size w) (.cells #[.int .i64 on, .int .i64 a0, .int .i64 a1, .int .i64 a2, .int .i64 a3] 60))
  have HBX := Aside0.mk (blk_new w (.cells #[.int .i64 on, .int .i64 a0, .int .i64 a1, .int .i64 a2, .int .i64 a3] 60))
  simp only [filtV_eq] at HCH ⊢
  go_enter Try.func72, Try.ntmps72
  go_wp2_with (first | (go_at_call 32; refine (HCH.out _).mono ?_; rintro e w2 ⟨rfl, hb_⟩; have HB2 := Aside0.mk (below_step HBB.out hb_); have HX2 := Aside0.mk (box_later HBX.out hb_); clear hb_))
  exact bodyPost_ret (v := .tuple #[.slice none 0 0, .int .i64 1]) (by simp [results, Try.results72, go_sem]) rfl ⟨rfl, HB2.out⟩
set_option maxRecDepth 100000 in
theorem tns_through.off (fv : Value) (A : Option Addr) (c : Nat) (x a : List Int) (w : World) (ha : a.length = 4) (hr : ReadsInt w .i32 A x.length x) (hn : x.length ≤ 120) (hk : okFilt 0 a) :
    Calls Try.prog 72 #[.slice A x.length c, filtV 0 a, fv] w fun e w' => ∃ v, e = .returned (.tuple #[v, .int .i64 0]) ∧ w'.ownsRow w.heap.size 21 1 v x.length (nums .i32 x) ∧ Below w.heap.size w w' := by
  have q0 : ¬ (120 : Int) < (x.length : Int) := by omega
  have HR := Aside0.mk hr
  have HN := Aside0.mk hn
  have HCH := Aside0.mk (fun w_ => tns_Check.calls 0 a ha 0 ⟨by rw [if_pos hk]⟩ w_)
  clear hn hk hr
  obtain ⟨a0, a1, a2, a3, rfl⟩ := four ha
  clear ha
  have HBB := Aside0.mk (below_alloc (Below.refl w.heap.size w) (.cells #[.int .i64 0, .int .i64 a0, .int .i64 a1, .int .i64 a2, .int .i64 a3] 60))
  have HBX := Aside0.mk (blk_new w (.cells #[.int .i64 0, .int .i64 a0, .int .i64 a1, .int .i64 a2, .int .i64 a3] 60))
  simp only [filtV_eq] at HCH ⊢
  go_enter Try.func72, Try.ntmps72
  go_wp2_with (first | (go_at_call 32; refine (HCH.out _).mono ?_; rintro e w2 ⟨rfl, hb_⟩; have HB2 := Aside0.mk (below_step HBB.out hb_); have HX2 := Aside0.mk (box_later HBX.out hb_); clear hb_) | (go_at_call 94; refine (clone_i32.calls A x.length c x _ (reads_below HR.out HB2.out) (by have := HN.out; omega)).mono ?_; rintro e w3 ⟨v3, rfl, g1, hb_⟩; have HB3 := Aside0.mk (below_step HB2.out hb_); have HX3 := Aside0.mk (box_later HX2.out hb_); have HO3 := Aside0.mk (own_lower g1 (below_size HB2.out)); have x0 := (blk_cell HX3.out 0).trans rfl; have x1 := (blk_cell HX3.out 1).trans rfl; have x2 := (blk_cell HX3.out 2).trans rfl; have x3 := (blk_cell HX3.out 3).trans rfl; have x4 := (blk_cell HX3.out 4).trans rfl; clear g1 hb_))
  exact bodyPost_ret (v := .tuple #[v3, .int .i64 0]) (by simp [results, Try.results72, go_sem]) rfl ⟨_, rfl, HO3.out, HB3.out⟩
set_option maxRecDepth 100000 in
theorem tns_Run.long (A : Option Addr) (c : Nat) (x a : List Int) (on : Int) (w : World) (ha : a.length = 4) (hn : 120 < x.length) :
    Calls Try.prog 33 #[.slice A x.length c, filtV on a] w fun e w' => e = .returned (.tuple #[.slice none 0 0, .int .i64 2]) ∧ Below w.heap.size w w' := by
  have HB0 := fun (o : Obj) => below_alloc (Below.refl w.heap.size w) o
  have HT := Aside0.mk (fun w_ => tns_through.long (.func (.func 73) #[] #[]) A c x a on w_ ha hn)
  obtain ⟨a0, a1, a2, a3, rfl⟩ := four ha
  try clear hr
  try clear hn
  try clear hx
  try clear hk
  have HBB := Aside0.mk (HB0 (.cells #[.int .i64 on, .int .i64 a0, .int .i64 a1, .int .i64 a2, .int .i64 a3] 60))
  clear ha HB0
  simp only [filtV_eq] at HT ⊢
  go_enter Try.func33, Try.ntmps33
  go_wp2_with (first | (go_at_call 72; refine (HT.out _).mono ?_; rintro e w2 ⟨rfl, hb_⟩; have HB2 := Aside0.mk (below_step HBB.out hb_); clear hb_))
  exact bodyPost_ret (v := .tuple #[.slice none 0 0, .int .i64 2]) (by simp [results, Try.results33, go_sem]) rfl ⟨rfl, HB2.out⟩
set_option maxRecDepth 100000 in
theorem tns_Run.bad (A : Option Addr) (c : Nat) (x a : List Int) (on : Int) (w : World) (ha : a.length = 4) (hn : ¬ 120 < x.length) (hk : ¬ okFilt on a) :
    Calls Try.prog 33 #[.slice A x.length c, filtV on a] w fun e w' => e = .returned (.tuple #[.slice none 0 0, .int .i64 1]) ∧ Below w.heap.size w w' := by
  have HB0 := fun (o : Obj) => below_alloc (Below.refl w.heap.size w) o
  have HT := Aside0.mk (fun w_ => tns_through.bad (.func (.func 73) #[] #[]) A c x a on w_ ha hn hk)
  obtain ⟨a0, a1, a2, a3, rfl⟩ := four ha
  try clear hr
  try clear hn
  try clear hx
  try clear hk
  have HBB := Aside0.mk (HB0 (.cells #[.int .i64 on, .int .i64 a0, .int .i64 a1, .int .i64 a2, .int .i64 a3] 60))
  clear ha HB0
  simp only [filtV_eq] at HT ⊢
  go_enter Try.func33, Try.ntmps33
  go_wp2_with (first | (go_at_call 72; refine (HT.out _).mono ?_; rintro e w2 ⟨rfl, hb_⟩; have HB2 := Aside0.mk (below_step HBB.out hb_); clear hb_))
  exact bodyPost_ret (v := .tuple #[.slice none 0 0, .int .i64 1]) (by simp [results, Try.results33, go_sem]) rfl ⟨rfl, HB2.out⟩
set_option maxRecDepth 100000 in
theorem tns_Run.off (A : Option Addr) (c : Nat) (x a : List Int) (w : World) (ha : a.length = 4) (hr : ReadsInt w .i32 A x.length x) (hn : x.length ≤ 120) (hk : okFilt 0 a) :
    Calls Try.prog 33 #[.slice A x.length c, filtV 0 a] w fun e w' => ∃ v, e = .returned (.tuple #[v, .int .i64 0]) ∧ w'.ownsRow w.heap.size 21 1 v x.length (nums .i32 x) ∧ Below w.heap.size w w' := by
  have HB0 := fun (o : Obj) => below_alloc (Below.refl w.heap.size w) o
  have HT := Aside0.mk (fun o => tns_through.off (.func (.func 73) #[] #[]) A c x a (w.alloc o) ha (reads_below hr (HB0 o)) hn hk)
  obtain ⟨a0, a1, a2, a3, rfl⟩ := four ha
  try clear hr
  try clear hn
  try clear hx
  try clear hk
  have HBB := Aside0.mk (HB0 (.cells #[.int .i64 0, .int .i64 a0, .int .i64 a1, .int .i64 a2, .int .i64 a3] 60))
  clear ha HB0
  simp only [filtV_eq] at HT ⊢
  go_enter Try.func33, Try.ntmps33
  go_wp2_with (first | (go_at_call 72; refine (HT.out _).mono ?_; rintro e w2 ⟨v2, rfl, g1, hb_⟩; have HB2 := Aside0.mk (below_step HBB.out hb_); have HO2 := Aside0.mk (own_lower g1 (below_size HBB.out)); clear g1 hb_))
  exact bodyPost_ret (v := .tuple #[v2, .int .i64 0]) (by simp [results, Try.results33, go_sem]) rfl ⟨_, rfl, HO2.out, HB2.out⟩
set_option maxRecDepth 100000 in
theorem tns_Run.on (A : Option Addr) (c : Nat) (x a : List Int) (w : World) (ha : a.length = 4) (hr : ReadsInt w .i32 A x.length x) (hn : x.length ≤ 120) (hx : ∀ i, In32 (x.getD i 0)) (hk : okFilt 1 a) :
    Calls Try.prog 33 #[.slice A x.length c, filtV 1 a] w fun e w' => ∃ v, e = .returned (.tuple #[v, .int .i64 0]) ∧ w'.ownsRow w.heap.size 21 1 v x.length (nums .i32 (upLines (partsL a) x)) ∧ Below w.heap.size w w' := by
  have HB0 := fun (o : Obj) => below_alloc (Below.refl w.heap.size w) o
  have HT := Aside0.mk (fun o => tns_through_run.calls A c x a (w.alloc o) (reads_below hr (HB0 o)) hn hx ha hk)
  obtain ⟨a0, a1, a2, a3, rfl⟩ := four ha
  try clear hr
  try clear hn
  try clear hx
  try clear hk
  have HBB := Aside0.mk (HB0 (.cells #[.int .i64 1, .int .i64 a0, .int .i64 a1, .int .i64 a2, .int .i64 a3] 60))
  clear ha HB0
  simp only [filtV_eq] at HT ⊢
  go_enter Try.func33, Try.ntmps33
  go_wp2_with (first | (go_at_call 72; refine (HT.out _).mono ?_; rintro e w2 ⟨v2, rfl, g1, hb_⟩; have HB2 := Aside0.mk (below_step HBB.out hb_); have HO2 := Aside0.mk (own_lower g1 (below_size HBB.out)); clear g1 hb_))
  exact bodyPost_ret (v := .tuple #[v2, .int .i64 0]) (by simp [results, Try.results33, go_sem]) rfl ⟨_, rfl, HO2.out, HB2.out⟩
set_option maxRecDepth 100000 in
theorem tns_Undo.long (A : Option Addr) (c : Nat) (x a : List Int) (on : Int) (w : World) (ha : a.length = 4) (hn : 120 < x.length) :
    Calls Try.prog 34 #[.slice A x.length c, filtV on a] w fun e w' => e = .returned (.tuple #[.slice none 0 0, .int .i64 2]) ∧ Below w.heap.size w w' := by
  have HB0 := fun (o : Obj) => below_alloc (Below.refl w.heap.size w) o
  have HT := Aside0.mk (fun w_ => tns_through.long (.func (.func 74) #[] #[]) A c x a on w_ ha hn)
  obtain ⟨a0, a1, a2, a3, rfl⟩ := four ha
  try clear hr
  try clear hn
  try clear hx
  try clear hk
  have HBB := Aside0.mk (HB0 (.cells #[.int .i64 on, .int .i64 a0, .int .i64 a1, .int .i64 a2, .int .i64 a3] 60))
  clear ha HB0
  simp only [filtV_eq] at HT ⊢
  go_enter Try.func34, Try.ntmps34
  go_wp2_with (first | (go_at_call 72; refine (HT.out _).mono ?_; rintro e w2 ⟨rfl, hb_⟩; have HB2 := Aside0.mk (below_step HBB.out hb_); clear hb_))
  exact bodyPost_ret (v := .tuple #[.slice none 0 0, .int .i64 2]) (by simp [results, Try.results34, go_sem]) rfl ⟨rfl, HB2.out⟩
set_option maxRecDepth 100000 in
theorem tns_Undo.bad (A : Option Addr) (c : Nat) (x a : List Int) (on : Int) (w : World) (ha : a.length = 4) (hn : ¬ 120 < x.length) (hk : ¬ okFilt on a) :
    Calls Try.prog 34 #[.slice A x.length c, filtV on a] w fun e w' => e = .returned (.tuple #[.slice none 0 0, .int .i64 1]) ∧ Below w.heap.size w w' := by
  have HB0 := fun (o : Obj) => below_alloc (Below.refl w.heap.size w) o
  have HT := Aside0.mk (fun w_ => tns_through.bad (.func (.func 74) #[] #[]) A c x a on w_ ha hn hk)
  obtain ⟨a0, a1, a2, a3, rfl⟩ := four ha
  try clear hr
  try clear hn
  try clear hx
  try clear hk
  have HBB := Aside0.mk (HB0 (.cells #[.int .i64 on, .int .i64 a0, .int .i64 a1, .int .i64 a2, .int .i64 a3] 60))
  clear ha HB0
  simp only [filtV_eq] at HT ⊢
  go_enter Try.func34, Try.ntmps34
  go_wp2_with (first | (go_at_call 72; refine (HT.out _).mono ?_; rintro e w2 ⟨rfl, hb_⟩; have HB2 := Aside0.mk (below_step HBB.out hb_); clear hb_))
  exact bodyPost_ret (v := .tuple #[.slice none 0 0, .int .i64 1]) (by simp [results, Try.results34, go_sem]) rfl ⟨rfl, HB2.out⟩
set_option maxRecDepth 100000 in
theorem tns_Undo.off (A : Option Addr) (c : Nat) (x a : List Int) (w : World) (ha : a.length = 4) (hr : ReadsInt w .i32 A x.length x) (hn : x.length ≤ 120) (hk : okFilt 0 a) :
    Calls Try.prog 34 #[.slice A x.length c, filtV 0 a] w fun e w' => ∃ v, e = .returned (.tuple #[v, .int .i64 0]) ∧ w'.ownsRow w.heap.size 21 1 v x.length (nums .i32 x) ∧ Below w.heap.size w w' := by
  have HB0 := fun (o : Obj) => below_alloc (Below.refl w.heap.size w) o
  have HT := Aside0.mk (fun o => tns_through.off (.func (.func 74) #[] #[]) A c x a (w.alloc o) ha (reads_below hr (HB0 o)) hn hk)
  obtain ⟨a0, a1, a2, a3, rfl⟩ := four ha
  try clear hr
  try clear hn
  try clear hx
  try clear hk
  have HBB := Aside0.mk (HB0 (.cells #[.int .i64 0, .int .i64 a0, .int .i64 a1, .int .i64 a2, .int .i64 a3] 60))
  clear ha HB0
  simp only [filtV_eq] at HT ⊢
  go_enter Try.func34, Try.ntmps34
  go_wp2_with (first | (go_at_call 72; refine (HT.out _).mono ?_; rintro e w2 ⟨v2, rfl, g1, hb_⟩; have HB2 := Aside0.mk (below_step HBB.out hb_); have HO2 := Aside0.mk (own_lower g1 (below_size HBB.out)); clear g1 hb_))
  exact bodyPost_ret (v := .tuple #[v2, .int .i64 0]) (by simp [results, Try.results34, go_sem]) rfl ⟨_, rfl, HO2.out, HB2.out⟩
set_option maxRecDepth 100000 in
theorem tns_Undo.on (A : Option Addr) (c : Nat) (x a : List Int) (w : World) (ha : a.length = 4) (hr : ReadsInt w .i32 A x.length x) (hn : x.length ≤ 120) (hx : ∀ i, In32 (x.getD i 0)) (hk : okFilt 1 a) :
    Calls Try.prog 34 #[.slice A x.length c, filtV 1 a] w fun e w' => ∃ v, e = .returned (.tuple #[v, .int .i64 0]) ∧ w'.ownsRow w.heap.size 21 1 v x.length (nums .i32 (downLines (partsL a) x)) ∧ Below w.heap.size w w' := by
  have HB0 := fun (o : Obj) => below_alloc (Below.refl w.heap.size w) o
  have HT := Aside0.mk (fun o => tns_through_undo.calls A c x a (w.alloc o) (reads_below hr (HB0 o)) hn hx ha hk)
  obtain ⟨a0, a1, a2, a3, rfl⟩ := four ha
  try clear hr
  try clear hn
  try clear hx
  try clear hk
  have HBB := Aside0.mk (HB0 (.cells #[.int .i64 1, .int .i64 a0, .int .i64 a1, .int .i64 a2, .int .i64 a3] 60))
  clear ha HB0
  simp only [filtV_eq] at HT ⊢
  go_enter Try.func34, Try.ntmps34
  go_wp2_with (first | (go_at_call 72; refine (HT.out _).mono ?_; rintro e w2 ⟨v2, rfl, g1, hb_⟩; have HB2 := Aside0.mk (below_step HBB.out hb_); have HO2 := Aside0.mk (own_lower g1 (below_size HBB.out)); clear g1 hb_))
  exact bodyPost_ret (v := .tuple #[v2, .int .i64 0]) (by simp [results, Try.results34, go_sem]) rfl ⟨_, rfl, HO2.out, HB2.out⟩
end Go.Proofs.Ytblehkoonajofaa.PTns
