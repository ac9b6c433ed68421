/- Tns: the law's example, and the law TnsBack. -/
import Derived.Test.YtblehkoonajofaaTnsBackPure
namespace Go.Proofs.Ytblehkoonajofaa.PTns
open Go.RowKit Go.Proofs.YtblehkoonajofaaW.PrintWords Go.Proofs.YtblehkoonajofaaW.PrintLast Go.Proofs.YtblehkoonajofaaW.PrintMore Go.Proofs.Ytblehkoonajofaa.RowAt
set_option linter.unusedVariables false
set_option linter.unusedSimpArgs false
section
open Go.Proofs.Ytblehkoonajofaa.Num
theorem Same_l0 {a : List Int} (hl : a.length ≤ 1000000) (d : Nat) : ∀ (k : Nat) (i : Int), 0 ≤ i → i ≤ a.length → (a.length : Int) - i = d → d < k → psalteryref08_Same32.l0 k a a i = some true := by
  induction d with
  | zero =>
    intro k i i0 i1 hd hk
    obtain ⟨k, rfl⟩ : ∃ m, k = m + 1 := ⟨k - 1, by omega⟩
    simp only [psalteryref08_Same32.l0]
    rw [if_neg (by omega)]
  | succ d ih =>
    intro k i i0 i1 hd hk
    obtain ⟨k, rfl⟩ : ∃ m, k = m + 1 := ⟨k - 1, by omega⟩
    simp only [psalteryref08_Same32.l0]
    rw [if_pos (by omega), if_pos i0, if_pos (by omega), if_true, w64 (by omega) (by omega)]
    exact ih k (i + 1) (by omega) (by omega) (by omega) (by omega)
theorem Same_eq {a : List Int} (hl : a.length ≤ 1000000) {k : Nat} (hk : a.length < k) : psalteryref08_Same32.f k a a = some true := by
  unfold psalteryref08_Same32.f
  rw [if_pos rfl]
  exact Same_l0 hl a.length k 0 (by decide) (by omega) (by omega) hk
end
theorem zeros_in (n : Nat) : ∀ i, In32 ((List.replicate n (0 : Int)).getD i 0) := by
  intro i
  rw [List.getD_eq_getElem?_getD, List.getElem?_replicate]; split <;> (unfold In32; decide)
theorem zeros_find : findOn (corrL (List.replicate 40 0)) = 0 ∧ findIdx (corrL (List.replicate 40 0)) = z4 := by decide +kernel
def x3 : List Int := [5, -7, 900]
theorem x3_in : ∀ i, In32 (x3.getD i 0) := by
  intro i
  match i with
  | 0 => unfold In32; decide
  | 1 => unfold In32; decide
  | 2 => unfold In32; decide
  | i+3 =>
    have h : x3.getD (i + 3) 0 = 0 := out_zero (n := 3) rfl (by omega)
    rw [h]; unfold In32; decide
theorem x3_run : runF 1 [8, 8, 8, 8] x3 = x3 := by decide +kernel
theorem same_int (A1 A2 : Option Addr) (c1 c2 n : Nat) (T : List Int) (hT : T.length = n) (hn : n ≤ 300) (W : World) (h1 : Kd.C (Kd.int .i32) W A1 n T) (l1 : n ≤ c1) (h2 : Kd.C (Kd.int .i32) W A2 n T) (l2 : n ≤ c2) :
    Calls Try.prog 35 #[.slice A1 n c1, .slice A2 n c2] W fun e w' => e = .returned (.bool true) ∧ Below W.heap.size W w' := by
  subst hT
  refine (psalteryref08_Same32.calls 1000 A1 c1 T A2 c2 T true W h1 l1 h2 l2 (Same_eq (by omega) (by omega))).mono ?_
  rintro e w' ⟨rfl, hb⟩
  obtain ⟨q8, hq8⟩ := hb.out
  exact ⟨rfl, by rw [hq8]; exact pw_below_drewN (Below.refl _ _) _⟩
set_option maxRecDepth 100000 in
theorem law17_alive.calls (w : World) : Calls Try.prog 29 #[] w fun e w' => e = .returned (.bool true) ∧ Below w.heap.size w w' := by
  have hmo : ∀ W : World, (Instr.makeSlice 41 (.int .i64 40) (.int .i64 40)).run Try.prog W = .ok (.slice (some ⟨W.heap.size, 0, none⟩) 40 40) (W.alloc (.cells (madeCells #[.int .i32 0] 40) 21)) := print_make 41 21 .i32 4 Try.underlying41 info_i32 (by decide) 40 (by omega)
  have HB1 := Aside0.mk (below_alloc (Below.refl w.heap.size w) (.cells (madeCells #[.int .i32 0] 40) 21))
  have HZ1 := Aside0.mk (own_reads' (own_made w w.heap.size 21 .i32 40 (Nat.le_refl _) (by decide)))
  have HF := Aside0.mk (fun W (g : ReadsInt W .i32 (some ⟨w.heap.size, 0, none⟩) 40 (List.replicate 40 0)) => tns_Find.calls (some ⟨w.heap.size, 0, none⟩) 40 (List.replicate 40 0) W (by rw [List.length_replicate]; exact g) (by decide) (zeros_in 40))
  rw [zeros_find.1, zeros_find.2, List.length_replicate] at HF
  simp only [z4, filtV_eq] at HF
  have HRU := Aside0.mk (fun (A : Option Addr) (c : Nat) (W : World) (g : ReadsInt W .i32 A x3.length x3) => tns_Run.any A c x3 [8, 8, 8, 8] 1 W rfl g (by decide) x3_in (by decide))
  rw [x3_run] at HRU
  simp only [filtV_eq] at HRU
  have HBA := Aside0.mk (fun (A : Option Addr) (c : Nat) (W : World) => tns_Run.bad A c x3 [0, 0, 0, 0] 2 W rfl (by decide) (by decide))
  simp only [filtV_eq] at HBA
  rw [show x3.length = 3 from rfl] at HRU HBA
  have heq : ∀ W : World, Sem.run Try.prog (Op.equalIn 9999 58 (.agg #[.int .i64 0, .int .i64 0, .int .i64 0, .int .i64 0]) (.agg #[.int .i64 0, .int .i64 0, .int .i64 0, .int .i64 0])) W = .ok true W := fun _ => by kernel_rfl
  go_enter Try.func29, Try.ntmps29
  go_wp2_with (first | (go_at_call 30; refine (HF.out _ HZ1.out).mono ?_; rintro e w3 ⟨rfl, hb_⟩; have HB3 := Aside0.mk (below_step HB1.out hb_); clear hb_) | (refine wpList_store_row rfl 60 _ _ rfl w3.heap.size #[.int .i64 0, .int .i64 0, .int .i64 0, .int .i64 0, .int .i64 0] rfl rfl 60 #[.int .i64 0, .int .i64 0, .int .i64 0, .int .i64 0, .int .i64 0] (blk_new w3 _) (by kernel_rfl) (by kernel_rfl) (by kernel_rfl) ?_; have hbs := below_setRow (below_alloc (Below.refl w3.heap.size w3) (.cells #[.int .i64 0, .int .i64 0, .int .i64 0, .int .i64 0, .int .i64 0] 60)) (Nat.le_refl _) #[.int .i64 0, .int .i64 0, .int .i64 0, .int .i64 0, .int .i64 0]; have HK4 := Aside0.mk (setRow_heap (w3.alloc (.cells #[.int .i64 0, .int .i64 0, .int .i64 0, .int .i64 0, .int .i64 0] 60)) w3.heap.size _ #[.int .i64 0, .int .i64 0, .int .i64 0, .int .i64 0, .int .i64 0] 60 (0, 0) (blk_new w3 _)); have HB4 := Aside0.mk (below_step HB3.out hbs); clear hbs; generalize (w3.alloc (.cells #[.int .i64 0, .int .i64 0, .int .i64 0, .int .i64 0, .int .i64 0] 60)).setRow w3.heap.size #[.int .i64 0, .int .i64 0, .int .i64 0, .int .i64 0, .int .i64 0] = w4 at HK4 HB4 ⊢; have HB5 := Aside0.mk (below_alloc (Below.refl w4.heap.size w4) (.cells #[.int .i32 5, .int .i32 (-7), .int .i32 900] 21)); have HK5 := Aside0.mk (box_later HK4.out HB5.out); have HX5 := Aside0.mk (blk_reads (k := .i32) (L := x3) (n := 3) (blk_new w4 (.cells #[.int .i32 5, .int .i32 (-7), .int .i32 900] 21)) rfl (by decide))) | (go_at_call 35; refine (same_int _ _ _ _ 3 x3 rfl (by decide) _ (Kd.C_of_reads (reads_below HX5.out HBx.out)) (by decide) (Kd.C_of_reads (own_reads' HOy.out)) (own_cap HOy.out)).mono ?_; rintro e w8 ⟨rfl, hb_⟩; have HB8 := Aside0.mk (below_step HBx.out hb_); clear hb_) | (have hdep_ := HB6.out; clear hdep_; go_at_call 33; refine (HBA.out _ _ _).mono ?_; rintro e w7 ⟨rfl, hb_⟩; have HBx := Aside0.mk (below_step HB6.out hb_); have HOy := Aside0.mk (HO6.out.kept (grown_of_below hb_ none) (by cases Value.ownBlock _ <;> simp)); have HK7 := Aside0.mk (box_later HK6.out hb_); have y0 := (blk_cell HK7.out 0).trans rfl; have y1 := (blk_cell HK7.out 1).trans rfl; have y2 := (blk_cell HK7.out 2).trans rfl; have y3 := (blk_cell HK7.out 3).trans rfl; have y4 := (blk_cell HK7.out 4).trans rfl; clear hb_) | (go_at_call 33; refine (HRU.out _ _ _ HX5.out).mono ?_; rintro e w6 ⟨v6, rfl, g1, hb_⟩; have HB6 := Aside0.mk hb_; have HK6 := Aside0.mk (box_later HK5.out hb_); obtain ⟨A6, c6, rfl⟩ := own_slice g1; have HO6 := Aside0.mk g1; clear hb_ g1))
  exact bodyPost_ret (v := .bool true) (by simp [results, Try.results29, go_sem]) rfl ⟨rfl, below_step (below_step HB4.out HB5.out) HB8.out⟩
set_option maxRecDepth 100000 in
set_option maxHeartbeats 8000000 in
theorem law_Back.calls (A : Option Addr) (c : Nat) (x : List Int) (on : Int) (a : List Int) (w : World) (hr : ReadsInt w .i32 A x.length x) (hc : x.length ≤ c) (hx : ∀ i, In32 (x.getD i 0)) (ha : a.length = 4) :
    Calls Try.prog 9 #[.slice A x.length c, filtV on a] w fun e w' => e = .returned (.bool true) ∧ Below w.heap.size w w' := by
  have HR := Aside0.mk hr
  have HC := Aside0.mk hc
  have HX := Aside0.mk hx
  have HA := Aside0.mk ha
  obtain ⟨a0, a1, a2, a3, rfl⟩ := four ha
  have HBB := Aside0.mk (below_alloc (Below.refl w.heap.size w) (.cells #[.int .i64 on, .int .i64 a0, .int .i64 a1, .int .i64 a2, .int .i64 a3] 63))
  have HBX := Aside0.mk (blk_new w (.cells #[.int .i64 on, .int .i64 a0, .int .i64 a1, .int .i64 a2, .int .i64 a3] 63))
  simp only [filtV_eq]
  by_cases hl : 120 < x.length
  · have q0 : (120 : Int) < (x.length : Int) := by omega
    clear hr hc hx ha hl
    go_enter Try.func9, Try.ntmps9
    go_wp2_with (first | (go_at_call 29; refine (law17_alive.calls _).mono ?_; rintro e w1 ⟨rfl, hb_⟩; have HB1 := Aside0.mk (below_step HBB.out hb_); have HX1 := Aside0.mk (box_later HBX.out hb_); clear hb_))
    exact bodyPost_ret (v := .bool true) (by simp [results, Try.results9, go_sem]) rfl ⟨rfl, HB1.out⟩
  · have q0 : ¬ (120 : Int) < (x.length : Int) := by omega
    have HN := Aside0.mk (show x.length ≤ 120 from by omega)
    have HFD := Aside0.mk (fun W (g : ReadsInt W .i32 A x.length x) => tns_Find.calls A c x W g (by omega) hx)
    have hfo := found_ok (corrL x)
    have HCG := Aside0.mk (fun w_ => tns_Check.calls (findOn (corrL x)) (findIdx (corrL x)) hfo.1 0 ⟨by rw [if_pos hfo.2]⟩ w_)
    generalize findOn (corrL x) = o at HFD HCG
    have hf4 := hfo.1
    clear hfo
    generalize findIdx (corrL x) = J at HFD HCG hf4
    obtain ⟨j0, j1, j2, j3, rfl⟩ := four hf4
    simp only [filtV_eq] at HFD HCG
    clear hr hc hx ha hl hf4
    go_enter Try.func9, Try.ntmps9
    go_wp2_with (first | (go_at_call 29; refine (law17_alive.calls _).mono ?_; rintro e w1 ⟨rfl, hb_⟩; have HB1 := Aside0.mk (below_step HBB.out hb_); have HX1 := Aside0.mk (box_later HBX.out hb_); clear hb_))
    go_loopg [5, 19, 20, 21, 22, 23, 24, 25, 26, 27, 28, 29, 30, 31, 32, 33, 34, 35, 36] x.length (fun kq v5 v19 v20 v21 v22 v23 v24 v25 v26 v27 v28 v29 v30 v31 v32 v33 v34 v35 v36 wx => ∃ i : Nat, v5 = .int .i64 (i : Int) ∧ Aside0 (kq + i = x.length) ∧ Aside0 (∀ k, k < i → -33554432 ≤ x.getD k 0 ∧ x.getD k 0 ≤ 33554432) ∧ Aside0 (wx = w1))
    case atStart => exact ⟨0, rfl, ⟨rfl⟩, ⟨fun k hk => absurd hk (by omega)⟩, ⟨rfl⟩⟩
    case round =>
      obtain ⟨i, rfl, HG, HS, HE⟩ := hrel
      obtain rfl := HE.out
      clear HE
      by_cases hi : i < x.length
      · have hi0 : (0 : Int) ≤ i := by omega
        have hin : (i : Int) < (x.length : Int) := by omega
        obtain ⟨adx, eA, hcx⟩ := HR.out.2.2 (by omega)
        subst eA
        have hc0 := hcx i hi
        have hc1 := (HB1.out.cell (World.block_lt_of_cell? _ _ hc0)).trans hc0
        obtain ⟨v, hv⟩ : ∃ v, v = x.getD i 0 := ⟨_, rfl⟩
        rw [← hv] at hc1
        have HV := Aside0.mk hv
        have HII := Aside0.mk hi
        clear hc0 hcx hv hi
        by_cases h1 : v > 33554432
        · go_wp2
          exact bodyPost_ret (v := .bool true) (by simp [results, Try.results9, go_sem]) rfl ⟨rfl, HB1.out⟩
        · by_cases h2 : v < -33554432
          · go_wp2
            exact bodyPost_ret (v := .bool true) (by simp [results, Try.results9, go_sem]) rfl ⟨rfl, HB1.out⟩
          · have hwi : IntKind.i64.wrap ((i : Int) + 1) = ((i + 1 : Nat) : Int) := by rw [i64_w]; unfold wrap64; have := HN.out; have := HII.out; omega
            have HS2 := Aside0.mk (show ∀ k, k < i + 1 → -33554432 ≤ x.getD k 0 ∧ x.getD k 0 ≤ 33554432 from fun k hk => by
              by_cases e : k = i
              · subst e; rw [← HV.out]; omega
              · exact HS.out k (by omega))
            obtain ⟨g0, rfl⟩ : ∃ g0, gk = g0 + 1 := ⟨gk - 1, by have := HG.out; have := HII.out; omega⟩
            go_wp2
            go_roundg g0
            case measure => omega
            case rel => exact ⟨i + 1, by first | rfl | (congr 1; push_cast; rfl), ⟨by have := HG.out; omega⟩, HS2, ⟨rfl⟩⟩
      · obtain rfl : i = x.length := by have := HG.out; omega
        have HSM := Aside0.mk (show Small25 x from fun k => by
          by_cases hk : k < x.length
          · exact HS.out k hk
          · rw [out_zero (n := x.length) rfl hk]; omega)
        have hin : ¬ ((x.length : Int) < (x.length : Int)) := by omega
        clear hi HS
        go_wp2_with (first | (go_at_call 32; refine (HCG.out _).mono ?_; rintro e w5 ⟨rfl, hb_⟩; have HB5 := Aside0.mk (below_step HB4.out hb_); have HX5 := Aside0.mk (box_later HX4.out hb_); have HK5 := Aside0.mk (box_later HK4.out hb_); clear x0 x1 x2 x3 x4; have x0 := (blk_cell HX5.out 0).trans rfl; have x1 := (blk_cell HX5.out 1).trans rfl; have x2 := (blk_cell HX5.out 2).trans rfl; have x3 := (blk_cell HX5.out 3).trans rfl; have x4 := (blk_cell HX5.out 4).trans rfl; have y0 := (blk_cell HK5.out 0).trans rfl; have y1 := (blk_cell HK5.out 1).trans rfl; have y2 := (blk_cell HK5.out 2).trans rfl; have y3 := (blk_cell HK5.out 3).trans rfl; have y4 := (blk_cell HK5.out 4).trans rfl; clear hb_) | (refine wpList_store_row rfl 60 _ _ rfl w3.heap.size #[.int .i64 o, .int .i64 j0, .int .i64 j1, .int .i64 j2, .int .i64 j3] rfl rfl 60 #[.int .i64 0, .int .i64 0, .int .i64 0, .int .i64 0, .int .i64 0] (blk_new w3 _) (by kernel_rfl) (by kernel_rfl) (by kernel_rfl) ?_; have hbs := below_setRow (below_alloc (Below.refl w3.heap.size w3) (.cells #[.int .i64 0, .int .i64 0, .int .i64 0, .int .i64 0, .int .i64 0] 60)) (Nat.le_refl _) #[.int .i64 o, .int .i64 j0, .int .i64 j1, .int .i64 j2, .int .i64 j3]; have HK4 := Aside0.mk (setRow_heap (w3.alloc (.cells #[.int .i64 0, .int .i64 0, .int .i64 0, .int .i64 0, .int .i64 0] 60)) w3.heap.size _ #[.int .i64 o, .int .i64 j0, .int .i64 j1, .int .i64 j2, .int .i64 j3] 60 (0, 0) (blk_new w3 _)); have HB4 := Aside0.mk (below_step HB3.out hbs); have HX4 := Aside0.mk (box_later HX3.out hbs); clear hbs; generalize (w3.alloc (.cells #[.int .i64 0, .int .i64 0, .int .i64 0, .int .i64 0, .int .i64 0] 60)).setRow w3.heap.size #[.int .i64 o, .int .i64 j0, .int .i64 j1, .int .i64 j2, .int .i64 j3] = w4 at HK4 HB4 HX4 ⊢; have x0 := (blk_cell HK4.out 0).trans rfl; have x1 := (blk_cell HK4.out 1).trans rfl; have x2 := (blk_cell HK4.out 2).trans rfl; have x3 := (blk_cell HK4.out 3).trans rfl; have x4 := (blk_cell HK4.out 4).trans rfl) | (go_at_call 30; refine (HFD.out _ (reads_below HR.out HB1.out)).mono ?_; rintro e w3 ⟨rfl, hb_⟩; have HB3 := Aside0.mk (below_step HB1.out hb_); have HX3 := Aside0.mk (box_later HX1.out hb_); clear hb_))
        change Code.wp _ _ _ _ (w5.alloc (.cells (nums .i64 [on, a0, a1, a2, a3, o, j0, j1, j2, j3]).toArray 60))
        have hbq := below_alloc (Below.refl w5.heap.size w5) (.cells (nums .i64 [on, a0, a1, a2, a3, o, j0, j1, j2, j3]).toArray 60)
        have HQ0 := Aside0.mk (blk_new w5 (.cells (nums .i64 [on, a0, a1, a2, a3, o, j0, j1, j2, j3]).toArray 60))
        have HB7 := Aside0.mk (below_step HB5.out hbq)
        generalize w5.alloc (.cells (nums .i64 [on, a0, a1, a2, a3, o, j0, j1, j2, j3]).toArray 60) = wq at HQ0 HB7 ⊢
        generalize w5.heap.size = bq at HQ0 ⊢
        clear hbq x0 x1 x2 x3 x4 y0 y1 y2 y3 y4 HX1 HX3 HX4 HX5 HK4 HK5 HB1 HB3 HB4 HB5 HBB HBX HCG HFD HG
        obtain ⟨LL, hLL⟩ : ∃ LL, LL = [on, a0, a1, a2, a3, o, j0, j1, j2, j3] := ⟨_, rfl⟩
        rw [← hLL] at HQ0
        have HL10 := Aside0.mk (show LL.length = 10 from by rw [hLL]; rfl)
        clear hLL
        go_loopg [9, 10, 11, 12, 13, 53, 54, 55, 56, 57, 58, 59, 60, 61, 62, 63, 64, 65, 66, 67, 68, 69, 70, 71, 72, 73, 74, 75, 76, 77, 78, 79, 80, 81, 82, 83, 84] 2 (fun kq v9 v10 v11 v12 v13 v53 v54 v55 v56 v57 v58 v59 v60 v61 v62 v63 v64 v65 v66 v67 v68 v69 v70 v71 v72 v73 v74 v75 v76 v77 v78 v79 v80 v81 v82 v83 v84 wx => ∃ i : Nat, v53 = .int .i64 (i : Int) ∧ Aside0 (kq + i = 2) ∧ Aside0 (wx.heap[bq]? = some (.cells (nums .i64 LL).toArray 60 (0, 0))) ∧ Aside0 (Below w.heap.size w wx))
        case atStart => exact ⟨0, rfl, ⟨rfl⟩, HQ0, HB7⟩
        case round =>
          clear HQ0 HB7
          obtain ⟨i, rfl, HG, HQ, HB⟩ := hrel
          by_cases hi : i < 2
          · have hi0 : (0 : Int) ≤ i := by omega
            have hi2 : (i : Int) < 2 := by omega
            have x0 := nums_at HQ.out (i := i * 5) (by rw [HL10.out]; omega)
            have x1 := nums_at HQ.out (i := i * 5 + 1) (by rw [HL10.out]; omega)
            have x2 := nums_at HQ.out (i := i * 5 + 2) (by rw [HL10.out]; omega)
            have x3 := nums_at HQ.out (i := i * 5 + 3) (by rw [HL10.out]; omega)
            have x4 := nums_at HQ.out (i := i * 5 + 4) (by rw [HL10.out]; omega)
            generalize LL.getD (i * 5) 0 = o_ at x0
            generalize LL.getD (i * 5 + 1) 0 = c0 at x1
            generalize LL.getD (i * 5 + 2) 0 = c1 at x2
            generalize LL.getD (i * 5 + 3) 0 = c2 at x3
            generalize LL.getD (i * 5 + 4) 0 = c3 at x4
            have hwi : IntKind.i64.wrap ((i : Int) + 1) = ((i + 1 : Nat) : Int) := by rw [i64_w]; unfold wrap64; omega
            obtain ⟨g0, rfl⟩ : ∃ g0, gk = g0 + 1 := ⟨gk - 1, by have := HG.out; omega⟩
            clear hi
            by_cases hk : okFilt o_ [c0, c1, c2, c3]
            · have HCK := Aside0.mk (fun w_ => tns_Check.calls o_ [c0, c1, c2, c3] rfl 0 ⟨by rw [if_pos hk]⟩ w_)
              have HRN := Aside0.mk (fun W (g : ReadsInt W .i32 A x.length x) => tns_Run.any A c x [c0, c1, c2, c3] o_ W rfl g HN.out HX.out hk)
              have HUN := Aside0.mk (fun A_ c_ W (g : ReadsInt W .i32 A_ (runF o_ [c0, c1, c2, c3] x).length (runF o_ [c0, c1, c2, c3] x)) => tns_Undo.any A_ c_ (runF o_ [c0, c1, c2, c3] x) [c0, c1, c2, c3] o_ W rfl g (by rw [runF_length]; exact HN.out) (runF_in HX.out) hk)
              rw [back rfl hk HSM.out, runF_length] at HUN
              have HYL := Aside0.mk (runF_length o_ [c0, c1, c2, c3] x)
              generalize runF o_ [c0, c1, c2, c3] x = Y at HRN HUN HYL
              simp only [filtV_eq] at HCK HRN HUN
              clear hk
              go_wp2_with (first | (go_at_call 35; refine (same_int _ _ _ _ x.length x rfl (by have := HN.out; omega) _ (Kd.C_of_reads (own_reads' HO9.out)) (own_cap HO9.out) (Kd.C_of_reads (reads_below HR.out HB9.out)) HC.out).mono ?_; rintro e wb ⟨rfl, hb_⟩; have HBb := Aside0.mk (below_step HB9.out hb_); have HQb := Aside0.mk (box_later HQ9.out hb_); clear hb_) | (go_at_call 34; refine (HUN.out _ _ _ HR8.out).mono ?_; rintro e w9 ⟨v9_, rfl, g1, hb_⟩; obtain ⟨A9, c9, rfl⟩ := own_slice g1; have HB9 := Aside0.mk (below_step HB8.out hb_); have HQ9 := Aside0.mk (box_later HQ8.out hb_); have HO9 := Aside0.mk g1; clear z0 z1 z2 z3 z4; clear hb_ g1) | (go_at_call 33; refine (HRN.out _ (reads_below HR.out HB7.out)).mono ?_; rintro e w8 ⟨v8, rfl, g1, hb_⟩; obtain ⟨A8, c8, rfl⟩ := own_slice g1; have HB8 := Aside0.mk (below_step HB7.out hb_); have HQ8 := Aside0.mk (box_later HQ7.out hb_); have HT8 := Aside0.mk (box_later HT7.out hb_); have HR8 := Aside0.mk (own_reads' g1); clear z0 z1 z2 z3 z4; have z0 := (blk_cell HT8.out 0).trans rfl; have z1 := (blk_cell HT8.out 1).trans rfl; have z2 := (blk_cell HT8.out 2).trans rfl; have z3 := (blk_cell HT8.out 3).trans rfl; have z4 := (blk_cell HT8.out 4).trans rfl; clear hb_ g1) | (go_at_call 32; refine (HCK.out _).mono ?_; rintro e w7 ⟨rfl, hb_⟩; have HB7 := Aside0.mk (below_step HB6.out hb_); have HQ7 := Aside0.mk (box_later HQ6.out hb_); have HT7 := Aside0.mk (box_later HT6.out hb_); clear z0 z1 z2 z3 z4; have z0 := (blk_cell HT7.out 0).trans rfl; have z1 := (blk_cell HT7.out 1).trans rfl; have z2 := (blk_cell HT7.out 2).trans rfl; have z3 := (blk_cell HT7.out 3).trans rfl; have z4 := (blk_cell HT7.out 4).trans rfl; clear hb_) | (refine wpList_store_row rfl 60 _ _ rfl wr.heap.size #[.int .i64 o_, .int .i64 c0, .int .i64 c1, .int .i64 c2, .int .i64 c3] rfl rfl 60 #[.int .i64 0, .int .i64 0, .int .i64 0, .int .i64 0, .int .i64 0] (blk_new wr _) (by kernel_rfl) (by kernel_rfl) (by kernel_rfl) ?_; have hbs := below_setRow (below_alloc (Below.refl wr.heap.size wr) (.cells #[.int .i64 0, .int .i64 0, .int .i64 0, .int .i64 0, .int .i64 0] 60)) (Nat.le_refl _) #[.int .i64 o_, .int .i64 c0, .int .i64 c1, .int .i64 c2, .int .i64 c3]; have HT6 := Aside0.mk (setRow_heap (wr.alloc (.cells #[.int .i64 0, .int .i64 0, .int .i64 0, .int .i64 0, .int .i64 0] 60)) wr.heap.size _ #[.int .i64 o_, .int .i64 c0, .int .i64 c1, .int .i64 c2, .int .i64 c3] 60 (0, 0) (blk_new wr _)); have HB6 := Aside0.mk (below_step HB.out hbs); have HQ6 := Aside0.mk (box_later HQ.out hbs); clear hbs; generalize (wr.alloc (.cells #[.int .i64 0, .int .i64 0, .int .i64 0, .int .i64 0, .int .i64 0] 60)).setRow wr.heap.size #[.int .i64 o_, .int .i64 c0, .int .i64 c1, .int .i64 c2, .int .i64 c3] = w6 at HT6 HB6 HQ6 ⊢; have z0 := (blk_cell HT6.out 0).trans rfl; have z1 := (blk_cell HT6.out 1).trans rfl; have z2 := (blk_cell HT6.out 2).trans rfl; have z3 := (blk_cell HT6.out 3).trans rfl; have z4 := (blk_cell HT6.out 4).trans rfl))
              go_roundg g0
              case measure => omega
              case rel => exact ⟨i + 1, by first | rfl | (congr 1; push_cast; rfl), ⟨by have := HG.out; omega⟩, HQb, HBb⟩
            · have HCK := Aside0.mk (fun w_ => tns_Check.calls o_ [c0, c1, c2, c3] rfl 1 ⟨by rw [if_neg hk]⟩ w_)
              simp only [filtV_eq] at HCK
              clear hk
              go_wp2_with (first | (go_at_call 32; refine (HCK.out _).mono ?_; rintro e w7 ⟨rfl, hb_⟩; have HB7 := Aside0.mk (below_step HB6.out hb_); have HQ7 := Aside0.mk (box_later HQ6.out hb_); clear z0 z1 z2 z3 z4; clear hb_) | (refine wpList_store_row rfl 60 _ _ rfl wr.heap.size #[.int .i64 o_, .int .i64 c0, .int .i64 c1, .int .i64 c2, .int .i64 c3] rfl rfl 60 #[.int .i64 0, .int .i64 0, .int .i64 0, .int .i64 0, .int .i64 0] (blk_new wr _) (by kernel_rfl) (by kernel_rfl) (by kernel_rfl) ?_; have hbs := below_setRow (below_alloc (Below.refl wr.heap.size wr) (.cells #[.int .i64 0, .int .i64 0, .int .i64 0, .int .i64 0, .int .i64 0] 60)) (Nat.le_refl _) #[.int .i64 o_, .int .i64 c0, .int .i64 c1, .int .i64 c2, .int .i64 c3]; have HT6 := Aside0.mk (setRow_heap (wr.alloc (.cells #[.int .i64 0, .int .i64 0, .int .i64 0, .int .i64 0, .int .i64 0] 60)) wr.heap.size _ #[.int .i64 o_, .int .i64 c0, .int .i64 c1, .int .i64 c2, .int .i64 c3] 60 (0, 0) (blk_new wr _)); have HB6 := Aside0.mk (below_step HB.out hbs); have HQ6 := Aside0.mk (box_later HQ.out hbs); clear hbs; generalize (wr.alloc (.cells #[.int .i64 0, .int .i64 0, .int .i64 0, .int .i64 0, .int .i64 0] 60)).setRow wr.heap.size #[.int .i64 o_, .int .i64 c0, .int .i64 c1, .int .i64 c2, .int .i64 c3] = w6 at HT6 HB6 HQ6 ⊢; have z0 := (blk_cell HT6.out 0).trans rfl; have z1 := (blk_cell HT6.out 1).trans rfl; have z2 := (blk_cell HT6.out 2).trans rfl; have z3 := (blk_cell HT6.out 3).trans rfl; have z4 := (blk_cell HT6.out 4).trans rfl))
              go_roundg g0
              case measure => omega
              case rel => exact ⟨i + 1, by first | rfl | (congr 1; push_cast; rfl), ⟨by have := HG.out; omega⟩, HQ7, HB7⟩
          · obtain rfl : i = 2 := by have := HG.out; omega
            clear hi
            go_wp2
            exact bodyPost_ret (v := .bool true) (by simp [results, Try.results9, go_sem]) rfl ⟨rfl, HB.out⟩
end Go.Proofs.Ytblehkoonajofaa.PTns
