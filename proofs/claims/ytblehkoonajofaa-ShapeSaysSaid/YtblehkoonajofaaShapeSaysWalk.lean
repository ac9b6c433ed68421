/- Shape: the walk of the law ShapeSays. -/
import Derived.Test.YtblehkoonajofaaShapeTurnsWalk
import Derived.Test.YtblehkoonajofaaShapeFindsWalk
namespace Go.Proofs.Ytblehkoonajofaa.PShape
open Go.RowKit Go.Proofs.YtblehkoonajofaaW.PrintWords Go.Proofs.YtblehkoonajofaaW.PrintLast Go.Proofs.YtblehkoonajofaaW.PrintMore Go.Proofs.Ytblehkoonajofaa.ShapeBand Go.Proofs.Ytblehkoonajofaa.RowAt
set_option linter.unusedVariables false
set_option linter.unusedSimpArgs false
section
open Go.Proofs.Ytblehkoonajofaa.Num Go.Proofs.Ytblehkoonajofaa.LogsBaseShape
theorem zeros_lines (n : Nat) : Lines (List.replicate n 0) := fun v hv => by rw [List.eq_of_mem_replicate hv]; decide
theorem turn_zeros (n : Nat) (S : List Int) (sgn : Int) : turnL (List.replicate n 0) S sgn = List.replicate n 0 := by
  apply List.ext_getElem (by rw [turnL_length])
  intro i h1 h2
  rw [turnL_length] at h1
  have h := turnL_at (List.replicate n 0) S sgn h1
  rw [List.getD_eq_getElem?_getD, List.getElem?_eq_getElem (by rw [turnL_length]; exact h1)] at h
  show (turnL (List.replicate n 0) S sgn)[i] = _
  have h3 : (turnL (List.replicate n 0) S sgn)[i]'(by rw [turnL_length]; exact h1) = turnV (List.replicate n 0) S sgn i := h
  rw [h3]
  unfold turnV
  have h4 : (List.replicate n (0 : Int)).getD i 0 = 0 := by
    rw [List.getD_eq_getElem?_getD]; rw [List.length_replicate] at h1; rw [List.getElem?_replicate, if_pos h1]; rfl
  rw [h4, Int.zero_mul, List.getElem_replicate]
  decide +kernel
end
theorem own_Cn {w : World} {base n c : Nat} {e : TypeId} {k : IntKind} {A : Option Addr} {xs : List Int} (h : w.ownsRow base e 1 (.slice A n c) n (nums k xs)) (hl : xs.length = n) : Kd.C (Kd.int k) w A n xs := by
  subst hl
  exact own_C h
theorem found_shape (D : List Int) (s : Nat) (hs : s ≤ 15) : okShape (s : Int) (restL D s) := by
  refine ⟨⟨by omega, by omega⟩, fun b hb => ?_⟩
  rw [restL_at D s hb]
  unfold clip43
  (repeat' split) <;> omega
theorem even_zero (n : Nat) (he : edE (List.replicate n 0) ≠ []) (c : Int) (r : List Int) (hr : r.length = 8) (hk : okShape c r) (A0 : Option Addr) (c0 : Nat) (W : World) (hC : Kd.C (Kd.int .i32) W A0 n (List.replicate n 0)) (hc : n ≤ c0) :
    Calls Try.prog 37 #[.slice A0 n c0, shapeV c r] W fun e w' => ∃ A cap, e = .returned (.tuple #[.slice A n cap, .int .i64 0]) ∧ w'.ownsRow W.heap.size 21 1 (.slice A n cap) n (nums .i32 (List.replicate n 0)) ∧ Below W.heap.size W w' := by
  have h := shape_Even.calls A0 c0 (List.replicate n 0) c r W (by rw [List.length_replicate]; exact hC) (by rw [List.length_replicate]; exact hc) (zeros_lines n) he hr hk
  rw [turn_zeros, List.length_replicate] at h
  exact h
set_option maxRecDepth 100000 in
set_option maxHeartbeats 8000000 in
theorem law_Says.noShape (A0 : Option Addr) (c0 : Nat) (x : List Int) (c : Int) (r : List Int) (w : World) (hr0 : Kd.C (Kd.int .i32) w A0 x.length x) (hc0 : x.length ≤ c0) (hx : Lines x) (hr : r.length = 8) (hk : ¬ okShape c r) :
    Calls Try.prog 10 #[.slice A0 x.length c0, shapeV c r] w fun e w' => e = .returned (.bool true) ∧ Below w.heap.size w w' := by
  have HSY := Aside0.mk (fun w_ => shape_Says.no c r hr hk w_)
  obtain ⟨r0, r1, r2, r3, r4, r5, r6, r7, rfl⟩ := eight hr
  clear hr0 hc0 hx hr hk
  have HI := Aside0.mk (show VI w c r0 r1 r2 r3 r4 r5 r6 r7 (.slice none 0 0) [] (.slice none 0 0) [] (.slice none 0 0) [] (w.alloc (.cells #[.int .i64 c, .int .i64 r0, .int .i64 r1, .int .i64 r2, .int .i64 r3, .int .i64 r4, .int .i64 r5, .int .i64 r6, .int .i64 r7] 55)) from ⟨blk_new w _, own_nil _ _ _ _, own_nil _ _ _ _, own_nil _ _ _ _, below_alloc (Below.refl w.heap.size w) _⟩)
  simp only [shapeV_eq] at HSY ⊢
  go_enter Try.func10, Try.ntmps10
  go_wp2_with (first | (go_at_call 24; refine (law_alive.calls _).mono ?_; rintro e w1 ⟨rfl, hb_⟩; have HI1 := Aside0.mk (HI.out.later hb_); clear hb_; have x0 := (blk_cell HI1.out.bx 0).trans rfl; have x1 := (blk_cell HI1.out.bx 1).trans rfl; have x2 := (blk_cell HI1.out.bx 2).trans rfl; have x3 := (blk_cell HI1.out.bx 3).trans rfl; have x4 := (blk_cell HI1.out.bx 4).trans rfl; have x5 := (blk_cell HI1.out.bx 5).trans rfl; have x6 := (blk_cell HI1.out.bx 6).trans rfl; have x7 := (blk_cell HI1.out.bx 7).trans rfl; have x8 := (blk_cell HI1.out.bx 8).trans rfl) | (go_at_call 36; refine (HSY.out _).mono ?_; rintro e w3 ⟨rfl, hb_⟩; have HI3 := Aside0.mk (HI1.out.later hb_); clear x0 x1 x2 x3 x4 x5 x6 x7 x8; clear hb_))
  go_loopg [7, 19, 20, 21, 22, 23, 24, 25, 26, 27, 28, 29, 30, 31, 32, 33, 34, 35, 36] 0 (fun kq v7 v19 v20 v21 v22 v23 v24 v25 v26 v27 v28 v29 v30 v31 v32 v33 v34 v35 v36 wx => v7 = .int .i64 0 ∧ Aside0 (VI w c r0 r1 r2 r3 r4 r5 r6 r7 (.slice none 0 0) [] (.slice none 0 0) [] (.slice none 0 0) [] wx))
  case atStart => exact ⟨rfl, HI3⟩
  case round =>
    clear HI HI1 HI3
    obtain ⟨rfl, HI⟩ := hrel
    go_wp2
    exact bodyPost_ret (v := .bool true) (by simp [results, Try.results10, go_sem]) rfl ⟨rfl, HI.out.be⟩
set_option maxRecDepth 100000 in
set_option maxHeartbeats 8000000 in
theorem law_Says.noBlock (A0 : Option Addr) (c0 : Nat) (x : List Int) (c : Int) (r : List Int) (w : World) (hr0 : Kd.C (Kd.int .i32) w A0 x.length x) (hc0 : x.length ≤ c0) (hx : Lines x) (hr : r.length = 8) (hk : okShape c r) (he : edE x = []) :
    Calls Try.prog 10 #[.slice A0 x.length c0, shapeV c r] w fun e w' => e = .returned (.bool true) ∧ Below w.heap.size w w' := by
  have HSY := Aside0.mk (fun w_ => shape_Says.calls c r hr hk w_)
  have HLL := Aside0.mk (saysL_length c r)
  have HSB := Aside0.mk (saysL_little hk)
  generalize saysL c r = S at HSY HLL HSB
  have HR := Aside0.mk hr0
  have HF := Aside0.mk (fun W g1 => shape_Find.no 1000 A0 c0 x [] W g1 hc0 (Energies_no x hx he))
  have hn4 : ¬ ((x.length : Int) = 40) := by intro h; unfold edE at he; rw [h] at he; exact absurd he (by decide)
  have hn6 : ¬ ((x.length : Int) = 60) := by intro h; unfold edE at he; rw [h] at he; exact absurd he (by decide)
  have hn8 : ¬ ((x.length : Int) = 80) := by intro h; unfold edE at he; rw [h] at he; exact absurd he (by decide)
  have hn12 : ¬ ((x.length : Int) = 120) := by intro h; unfold edE at he; rw [h] at he; exact absurd he (by decide)
  generalize hz : shapeV 0 z8 = ZV at HF
  have hZV : ZV = .agg #[.int .i64 0, .int .i64 0, .int .i64 0, .int .i64 0, .int .i64 0, .int .i64 0, .int .i64 0, .int .i64 0, .int .i64 0] := by rw [← hz]; rfl
  subst hZV
  clear hz
  obtain ⟨r0, r1, r2, r3, r4, r5, r6, r7, rfl⟩ := eight hr
  clear hr0 hc0 hx hr hk he
  have HI := Aside0.mk (show VI w c r0 r1 r2 r3 r4 r5 r6 r7 (.slice none 0 0) [] (.slice none 0 0) [] (.slice none 0 0) [] (w.alloc (.cells #[.int .i64 c, .int .i64 r0, .int .i64 r1, .int .i64 r2, .int .i64 r3, .int .i64 r4, .int .i64 r5, .int .i64 r6, .int .i64 r7] 55)) from ⟨blk_new w _, own_nil _ _ _ _, own_nil _ _ _ _, own_nil _ _ _ _, below_alloc (Below.refl w.heap.size w) _⟩)
  simp only [shapeV_eq] at HSY ⊢
  go_enter Try.func10, Try.ntmps10
  go_wp2_with (first | (go_at_call 24; refine (law_alive.calls _).mono ?_; rintro e w1 ⟨rfl, hb_⟩; have HI1 := Aside0.mk (HI.out.later hb_); clear hb_; have x0 := (blk_cell HI1.out.bx 0).trans rfl; have x1 := (blk_cell HI1.out.bx 1).trans rfl; have x2 := (blk_cell HI1.out.bx 2).trans rfl; have x3 := (blk_cell HI1.out.bx 3).trans rfl; have x4 := (blk_cell HI1.out.bx 4).trans rfl; have x5 := (blk_cell HI1.out.bx 5).trans rfl; have x6 := (blk_cell HI1.out.bx 6).trans rfl; have x7 := (blk_cell HI1.out.bx 7).trans rfl; have x8 := (blk_cell HI1.out.bx 8).trans rfl) | (go_at_call 36; refine (HSY.out _).mono ?_; rintro e w3 ⟨As, rfl, g1, hb_⟩; have HI3 := Aside0.mk (HI1.out.setL (m := S) hb_ (by rw [HLL.out]; exact g1)); clear x0 x1 x2 x3 x4 x5 x6 x7 x8; clear g1 hb_))
  go_loopg [7, 19, 20, 21, 22, 23, 24, 25, 26, 27, 28, 29, 30, 31, 32, 33, 34, 35, 36] 8 (fun kq v7 v19 v20 v21 v22 v23 v24 v25 v26 v27 v28 v29 v30 v31 v32 v33 v34 v35 v36 wx => ∃ i : Nat, v7 = .int .i64 (i : Int) ∧ Aside0 (kq + i = 8) ∧ Aside0 (VI w c r0 r1 r2 r3 r4 r5 r6 r7 (.slice As 8 8) S (.slice none 0 0) [] (.slice none 0 0) [] wx))
  case atStart => exact ⟨0, rfl, ⟨rfl⟩, HI3⟩
  case round =>
    clear HI HI1 HI3
    obtain ⟨i, rfl, HG, HI⟩ := hrel
    by_cases hi : i < 8
    · have hi0 : (0 : Int) ≤ i := by omega
      have hi8 : (i : Int) < 8 := by omega
      have hlr := HI.out.lr
      rw [HLL.out] at hlr
      obtain ⟨ads, rfl, hcs⟩ := (own_reads' hlr).2.2 (by omega)
      have hs1 := hcs i hi
      have hsb := HSB.out i
      generalize S.getD i 0 = s at hs1 hsb
      have hs2 : ¬ s < -1024 := by omega
      have hs3 : ¬ 896 < s := by omega
      obtain ⟨g0, rfl⟩ : ∃ g0, gk = g0 + 1 := ⟨gk - 1, by have := HG.out; omega⟩
      have hwi : IntKind.i64.wrap ((i : Int) + 1) = ((i + 1 : Nat) : Int) := by rw [i64_w]; unfold wrap64; omega
      clear hlr hcs hi hsb
      go_wp2
      go_roundg g0
      case measure => omega
      case rel => exact ⟨i + 1, by first | rfl | (congr 1; push_cast; rfl), ⟨by have := HG.out; omega⟩, HI⟩
    · obtain rfl : i = 8 := by have := HG.out; omega
      clear hi
      go_wp2_with (first | (go_at_call 25; refine (HF.out _ (Kd.C_below HR.out HI.out.be)).mono ?_; rintro e w4 ⟨rfl, hb_⟩; have HI4 := Aside0.mk (HI.out.later hb_); clear hb_) | (refine wpList_store_row rfl 51 _ _ rfl w4.heap.size #[.int .i64 0, .int .i64 0, .int .i64 0, .int .i64 0, .int .i64 0, .int .i64 0, .int .i64 0, .int .i64 0, .int .i64 0] rfl rfl 51 #[.int .i64 0, .int .i64 0, .int .i64 0, .int .i64 0, .int .i64 0, .int .i64 0, .int .i64 0, .int .i64 0, .int .i64 0] (blk_new w4 _) (by kernel_rfl) (by kernel_rfl) (by kernel_rfl) ?_; have HK5 := Aside0.mk (setRow_heap (w4.alloc (.cells #[.int .i64 0, .int .i64 0, .int .i64 0, .int .i64 0, .int .i64 0, .int .i64 0, .int .i64 0, .int .i64 0, .int .i64 0] 51)) w4.heap.size _ #[.int .i64 0, .int .i64 0, .int .i64 0, .int .i64 0, .int .i64 0, .int .i64 0, .int .i64 0, .int .i64 0, .int .i64 0] 51 (0, 0) (blk_new w4 _)); have HI5 := Aside0.mk (HI4.out.later (below_setRow (below_alloc (Below.refl w4.heap.size w4) (.cells #[.int .i64 0, .int .i64 0, .int .i64 0, .int .i64 0, .int .i64 0, .int .i64 0, .int .i64 0, .int .i64 0, .int .i64 0] 51)) (Nat.le_refl _) #[.int .i64 0, .int .i64 0, .int .i64 0, .int .i64 0, .int .i64 0, .int .i64 0, .int .i64 0, .int .i64 0, .int .i64 0])); generalize (w4.alloc (.cells #[.int .i64 0, .int .i64 0, .int .i64 0, .int .i64 0, .int .i64 0, .int .i64 0, .int .i64 0, .int .i64 0, .int .i64 0] 51)).setRow w4.heap.size #[.int .i64 0, .int .i64 0, .int .i64 0, .int .i64 0, .int .i64 0, .int .i64 0, .int .i64 0, .int .i64 0, .int .i64 0] = w5 at HK5 HI5 ⊢))
      exact bodyPost_ret (v := .bool true) (by simp [results, Try.results10, go_sem, hn4, hn6, hn8, hn12]) rfl ⟨rfl, HI5.out.be⟩
set_option maxRecDepth 100000 in
set_option maxHeartbeats 8000000 in
theorem law_Says.block (A0 : Option Addr) (c0 : Nat) (x : List Int) (c : Int) (r : List Int) (w : World) (hr0 : Kd.C (Kd.int .i32) w A0 x.length x) (hc0 : x.length ≤ c0) (hx : Lines x) (hr : r.length = 8) (hk : okShape c r) (he : edE x ≠ []) :
    Calls Try.prog 10 #[.slice A0 x.length c0, shapeV c r] w fun e w' => e = .returned (.bool true) ∧ Below w.heap.size w w' := by
  have HSY := Aside0.mk (fun w_ => shape_Says.calls c r hr hk w_)
  have HLL := Aside0.mk (saysL_length c r)
  have HSB := Aside0.mk (saysL_little hk)
  generalize saysL c r = S at HSY HLL HSB
  have HR := Aside0.mk hr0
  have HF := Aside0.mk (fun W g1 => find_any x hx (by have := (edges_ok _ he).2.2.2.2.1; omega) he A0 c0 W g1 hc0)
  have h8 := restL_length (dD x) (bestUpto (dD x) 16)
  have hfk := found_shape (dD x) _ (bestUpto_le (dD x) 16 (by decide))
  have hN : x.length ≤ 120 := by have := (edges_ok _ he).2.2.2.2.1; omega
  generalize ((bestUpto (dD x) 16 : Nat) : Int) = d at HF hfk
  generalize restL (dD x) (bestUpto (dD x) 16) = R at HF hfk h8
  obtain ⟨n, hn⟩ : ∃ n, n = x.length := ⟨_, rfl⟩
  rw [← hn] at hN
  have hez : edE (List.replicate n 0) ≠ [] := by unfold edE at he ⊢; rw [List.length_replicate, hn]; exact he
  have HEV := Aside0.mk (fun A c_ W g1 g2 => even_zero n hez d R h8 hfk A c_ W g1 g2)
  have HCH := Aside0.mk (fun w_ => shape_Check.calls d R h8 0 ⟨by rw [if_pos hfk]⟩ w_)
  have hmo : ∀ W : World, (Instr.makeSlice 41 (.int .i64 (n : Int)) (.int .i64 (n : Int))).run Try.prog W = .ok (.slice (some ⟨W.heap.size, 0, none⟩) n n) (W.alloc (.cells (madeCells #[.int .i32 0] n) 21)) := print_make 41 21 .i32 4 Try.underlying41 info_i32 (by decide) n (by omega)
  have HN := Aside0.mk hN
  have HNE := Aside0.mk hn
  obtain ⟨q0, q1, q2, q3, q4, q5, q6, q7, rfl⟩ := eight h8
  rw [← hn] at HF HR ⊢
  clear hn hN hfk h8 hez
  obtain ⟨r0, r1, r2, r3, r4, r5, r6, r7, rfl⟩ := eight hr
  clear hr0 hc0 hx hr hk he
  have HI := Aside0.mk (show VI w c r0 r1 r2 r3 r4 r5 r6 r7 (.slice none 0 0) [] (.slice none 0 0) [] (.slice none 0 0) [] (w.alloc (.cells #[.int .i64 c, .int .i64 r0, .int .i64 r1, .int .i64 r2, .int .i64 r3, .int .i64 r4, .int .i64 r5, .int .i64 r6, .int .i64 r7] 55)) from ⟨blk_new w _, own_nil _ _ _ _, own_nil _ _ _ _, own_nil _ _ _ _, below_alloc (Below.refl w.heap.size w) _⟩)
  simp only [shapeV_eq] at HSY HF HEV HCH ⊢
  go_enter Try.func10, Try.ntmps10
  go_wp2_with (first | (go_at_call 24; refine (law_alive.calls _).mono ?_; rintro e w1 ⟨rfl, hb_⟩; have HI1 := Aside0.mk (HI.out.later hb_); clear hb_; have x0 := (blk_cell HI1.out.bx 0).trans rfl; have x1 := (blk_cell HI1.out.bx 1).trans rfl; have x2 := (blk_cell HI1.out.bx 2).trans rfl; have x3 := (blk_cell HI1.out.bx 3).trans rfl; have x4 := (blk_cell HI1.out.bx 4).trans rfl; have x5 := (blk_cell HI1.out.bx 5).trans rfl; have x6 := (blk_cell HI1.out.bx 6).trans rfl; have x7 := (blk_cell HI1.out.bx 7).trans rfl; have x8 := (blk_cell HI1.out.bx 8).trans rfl) | (go_at_call 36; refine (HSY.out _).mono ?_; rintro e w3 ⟨As, rfl, g1, hb_⟩; have HI3 := Aside0.mk (HI1.out.setL (m := S) hb_ (by rw [HLL.out]; exact g1)); clear x0 x1 x2 x3 x4 x5 x6 x7 x8; clear g1 hb_))
  go_loopg [7, 19, 20, 21, 22, 23, 24, 25, 26, 27, 28, 29, 30, 31, 32, 33, 34, 35, 36] 8 (fun kq v7 v19 v20 v21 v22 v23 v24 v25 v26 v27 v28 v29 v30 v31 v32 v33 v34 v35 v36 wx => ∃ i : Nat, v7 = .int .i64 (i : Int) ∧ Aside0 (kq + i = 8) ∧ Aside0 (VI w c r0 r1 r2 r3 r4 r5 r6 r7 (.slice As 8 8) S (.slice none 0 0) [] (.slice none 0 0) [] wx))
  case atStart => exact ⟨0, rfl, ⟨rfl⟩, HI3⟩
  case round =>
    clear HI HI1 HI3
    obtain ⟨i, rfl, HG, HI⟩ := hrel
    by_cases hi : i < 8
    · have hi0 : (0 : Int) ≤ i := by omega
      have hi8 : (i : Int) < 8 := by omega
      have hlr := HI.out.lr
      rw [HLL.out] at hlr
      obtain ⟨ads, rfl, hcs⟩ := (own_reads' hlr).2.2 (by omega)
      have hs1 := hcs i hi
      have hsb := HSB.out i
      generalize S.getD i 0 = s at hs1 hsb
      have hs2 : ¬ s < -1024 := by omega
      have hs3 : ¬ 896 < s := by omega
      obtain ⟨g0, rfl⟩ : ∃ g0, gk = g0 + 1 := ⟨gk - 1, by have := HG.out; omega⟩
      have hwi : IntKind.i64.wrap ((i : Int) + 1) = ((i + 1 : Nat) : Int) := by rw [i64_w]; unfold wrap64; omega
      clear hlr hcs hi hsb
      go_wp2
      go_roundg g0
      case measure => omega
      case rel => exact ⟨i + 1, by first | rfl | (congr 1; push_cast; rfl), ⟨by have := HG.out; omega⟩, HI⟩
    · obtain rfl : i = 8 := by have := HG.out; omega
      clear hi
      go_wp2_with (first | (go_at_call 25; refine (HF.out _ (Kd.C_below HR.out HI.out.be)).mono ?_; rintro e w4 ⟨rfl, hb_⟩; have HI4 := Aside0.mk (HI.out.later hb_); clear hb_) | (refine wpList_store_row rfl 51 _ _ rfl w4.heap.size #[.int .i64 d, .int .i64 q0, .int .i64 q1, .int .i64 q2, .int .i64 q3, .int .i64 q4, .int .i64 q5, .int .i64 q6, .int .i64 q7] rfl rfl 51 #[.int .i64 0, .int .i64 0, .int .i64 0, .int .i64 0, .int .i64 0, .int .i64 0, .int .i64 0, .int .i64 0, .int .i64 0] (blk_new w4 _) (by kernel_rfl) (by kernel_rfl) (by kernel_rfl) ?_; have HK5 := Aside0.mk (setRow_heap (w4.alloc (.cells #[.int .i64 0, .int .i64 0, .int .i64 0, .int .i64 0, .int .i64 0, .int .i64 0, .int .i64 0, .int .i64 0, .int .i64 0] 51)) w4.heap.size _ #[.int .i64 d, .int .i64 q0, .int .i64 q1, .int .i64 q2, .int .i64 q3, .int .i64 q4, .int .i64 q5, .int .i64 q6, .int .i64 q7] 51 (0, 0) (blk_new w4 _)); have HI5 := Aside0.mk (HI4.out.later (below_setRow (below_alloc (Below.refl w4.heap.size w4) (.cells #[.int .i64 0, .int .i64 0, .int .i64 0, .int .i64 0, .int .i64 0, .int .i64 0, .int .i64 0, .int .i64 0, .int .i64 0] 51)) (Nat.le_refl _) #[.int .i64 d, .int .i64 q0, .int .i64 q1, .int .i64 q2, .int .i64 q3, .int .i64 q4, .int .i64 q5, .int .i64 q6, .int .i64 q7])); generalize (w4.alloc (.cells #[.int .i64 0, .int .i64 0, .int .i64 0, .int .i64 0, .int .i64 0, .int .i64 0, .int .i64 0, .int .i64 0, .int .i64 0] 51)).setRow w4.heap.size #[.int .i64 d, .int .i64 q0, .int .i64 q1, .int .i64 q2, .int .i64 q3, .int .i64 q4, .int .i64 q5, .int .i64 q6, .int .i64 q7] = w5 at HK5 HI5 ⊢))
      have hbd := below_drew (Below.refl w5.heap.size w5)
      have hbm := below_step hbd (below_alloc (Below.refl w5.drew.heap.size w5.drew) (.cells (madeCells #[.int .i32 0] n) 21))
      have HKd := Aside0.mk (box_later HK5.out hbd)
      have HKm := Aside0.mk (box_later HK5.out hbm)
      have HIm := Aside0.mk (HI5.out.later hbm)
      have HZC := Aside0.mk (own_Cn (own_made w5.drew w5.drew.heap.size 21 .i32 n (Nat.le_refl _) (by have := HN.out; omega)) (by rw [List.length_replicate]))
      have f0 : ∀ W : World, W.heap[w4.heap.size]? = some (.cells #[.int .i64 d, .int .i64 q0, .int .i64 q1, .int .i64 q2, .int .i64 q3, .int .i64 q4, .int .i64 q5, .int .i64 q6, .int .i64 q7] 51 (0, 0)) → W.cell? ⟨w4.heap.size, 0, none⟩ = some (.int .i64 d) := fun W hW => (blk_cell hW 0).trans rfl
      have f1 : ∀ W : World, W.heap[w4.heap.size]? = some (.cells #[.int .i64 d, .int .i64 q0, .int .i64 q1, .int .i64 q2, .int .i64 q3, .int .i64 q4, .int .i64 q5, .int .i64 q6, .int .i64 q7] 51 (0, 0)) → W.cell? ⟨w4.heap.size, 1, none⟩ = some (.int .i64 q0) := fun W hW => (blk_cell hW 1).trans rfl
      have f2 : ∀ W : World, W.heap[w4.heap.size]? = some (.cells #[.int .i64 d, .int .i64 q0, .int .i64 q1, .int .i64 q2, .int .i64 q3, .int .i64 q4, .int .i64 q5, .int .i64 q6, .int .i64 q7] 51 (0, 0)) → W.cell? ⟨w4.heap.size, 2, none⟩ = some (.int .i64 q1) := fun W hW => (blk_cell hW 2).trans rfl
      have f3 : ∀ W : World, W.heap[w4.heap.size]? = some (.cells #[.int .i64 d, .int .i64 q0, .int .i64 q1, .int .i64 q2, .int .i64 q3, .int .i64 q4, .int .i64 q5, .int .i64 q6, .int .i64 q7] 51 (0, 0)) → W.cell? ⟨w4.heap.size, 3, none⟩ = some (.int .i64 q2) := fun W hW => (blk_cell hW 3).trans rfl
      have f4 : ∀ W : World, W.heap[w4.heap.size]? = some (.cells #[.int .i64 d, .int .i64 q0, .int .i64 q1, .int .i64 q2, .int .i64 q3, .int .i64 q4, .int .i64 q5, .int .i64 q6, .int .i64 q7] 51 (0, 0)) → W.cell? ⟨w4.heap.size, 4, none⟩ = some (.int .i64 q3) := fun W hW => (blk_cell hW 4).trans rfl
      have f5 : ∀ W : World, W.heap[w4.heap.size]? = some (.cells #[.int .i64 d, .int .i64 q0, .int .i64 q1, .int .i64 q2, .int .i64 q3, .int .i64 q4, .int .i64 q5, .int .i64 q6, .int .i64 q7] 51 (0, 0)) → W.cell? ⟨w4.heap.size, 5, none⟩ = some (.int .i64 q4) := fun W hW => (blk_cell hW 5).trans rfl
      have f6 : ∀ W : World, W.heap[w4.heap.size]? = some (.cells #[.int .i64 d, .int .i64 q0, .int .i64 q1, .int .i64 q2, .int .i64 q3, .int .i64 q4, .int .i64 q5, .int .i64 q6, .int .i64 q7] 51 (0, 0)) → W.cell? ⟨w4.heap.size, 6, none⟩ = some (.int .i64 q5) := fun W hW => (blk_cell hW 6).trans rfl
      have f7 : ∀ W : World, W.heap[w4.heap.size]? = some (.cells #[.int .i64 d, .int .i64 q0, .int .i64 q1, .int .i64 q2, .int .i64 q3, .int .i64 q4, .int .i64 q5, .int .i64 q6, .int .i64 q7] 51 (0, 0)) → W.cell? ⟨w4.heap.size, 7, none⟩ = some (.int .i64 q6) := fun W hW => (blk_cell hW 7).trans rfl
      have f8 : ∀ W : World, W.heap[w4.heap.size]? = some (.cells #[.int .i64 d, .int .i64 q0, .int .i64 q1, .int .i64 q2, .int .i64 q3, .int .i64 q4, .int .i64 q5, .int .i64 q6, .int .i64 q7] 51 (0, 0)) → W.cell? ⟨w4.heap.size, 8, none⟩ = some (.int .i64 q7) := fun W hW => (blk_cell hW 8).trans rfl
      clear hbd hbm
      go_region_held3 (fun W => W.heap[w4.heap.size]? = some (.cells #[.int .i64 d, .int .i64 q0, .int .i64 q1, .int .i64 q2, .int .i64 q3, .int .i64 q4, .int .i64 q5, .int .i64 q6, .int .i64 q7] 51 (0, 0))) (first | exact HK5.out | exact HKd.out | exact HKm.out | exact HK6.out)
        (first | (go_at_call 37; refine (HEV.out _ _ _ HZC.out (Nat.le_refl _)).mono ?_; rintro e w6 ⟨Ay, cy, rfl, g1, hb_⟩; have HI6 := Aside0.mk (HIm.out.later hb_); have HK6 := Aside0.mk (box_later HKm.out hb_); have HY6 := Aside0.mk (own_lower g1 (below_size HIm.out.be)); clear g1 hb_))
      all_goals
        clear f0 f1 f2 f3 f4 f5 f6 f7 f8
        try clear hHeld
        have x0 := (blk_cell HK6.out 0).trans rfl
        have x1 := (blk_cell HK6.out 1).trans rfl
        have x2 := (blk_cell HK6.out 2).trans rfl
        have x3 := (blk_cell HK6.out 3).trans rfl
        have x4 := (blk_cell HK6.out 4).trans rfl
        have x5 := (blk_cell HK6.out 5).trans rfl
        have x6 := (blk_cell HK6.out 6).trans rfl
        have x7 := (blk_cell HK6.out 7).trans rfl
        have x8 := (blk_cell HK6.out 8).trans rfl
        go_wp2_with (first | (go_at_call 38; refine (HCH.out _).mono ?_; rintro e w7 ⟨rfl, hb_⟩; have HI7 := Aside0.mk (HI6.out.later hb_); have HY7 := Aside0.mk (HY6.out.kept (grown_of_below hb_ none) (by cases Value.ownBlock _ <;> simp)); clear hb_) | (go_at_call 35; refine (same_rows Ay _ cy _ n _ w7.heap.size _ 21 (List.replicate n 0) (by rw [List.length_replicate]) (by have := HN.out; omega) _ (HY7.out.kept (grown_of_below (below_alloc (Below.refl w7.heap.size w7) (.cells (madeCells #[.int .i32 0] n) 21)) none) (by cases Value.ownBlock _ <;> simp)) (own_made w7 w7.heap.size 21 .i32 n (Nat.le_refl _) (by have := HN.out; omega))).mono ?_; rintro e w8 ⟨rfl, hb_⟩; have HI8 := Aside0.mk ((HI7.out.later (below_alloc (Below.refl w7.heap.size w7) (.cells (madeCells #[.int .i32 0] n) 21))).later hb_); clear hb_))
        exact bodyPost_ret (v := .bool true) (by simp [results, Try.results10, go_sem]) rfl ⟨rfl, HI8.out.be⟩
theorem law_Says.calls (A0 : Option Addr) (c0 : Nat) (x : List Int) (c : Int) (r : List Int) (w : World) (hr0 : Kd.C (Kd.int .i32) w A0 x.length x) (hc0 : x.length ≤ c0) (hx : Lines x) (hr : r.length = 8) :
    Calls Try.prog 10 #[.slice A0 x.length c0, shapeV c r] w fun e w' => e = .returned (.bool true) ∧ Below w.heap.size w w' := by
  by_cases hk : okShape c r
  · by_cases he : edE x = []
    · exact law_Says.noBlock A0 c0 x c r w hr0 hc0 hx hr hk he
    · exact law_Says.block A0 c0 x c r w hr0 hc0 hx hr hk he
  · exact law_Says.noShape A0 c0 x c r w hr0 hc0 hx hr hk
end Go.Proofs.Ytblehkoonajofaa.PShape
