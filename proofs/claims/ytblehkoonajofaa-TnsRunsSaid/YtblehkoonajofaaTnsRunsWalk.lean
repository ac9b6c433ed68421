/- Tns: the law TnsRuns. -/
import Derived.Test.YtblehkoonajofaaTnsRef
import Derived.Test.YtblehkoonajofaaTnsBackWalk
namespace Go.Proofs.Ytblehkoonajofaa.PTns
open Go.RowKit Go.Proofs.YtblehkoonajofaaW.PrintWords Go.Proofs.YtblehkoonajofaaW.PrintLast Go.Proofs.YtblehkoonajofaaW.PrintMore Go.Proofs.Ytblehkoonajofaa.RowAt
attribute [local go_sem] max2_int min2_int max_two min_two max_three min_three max_four min_four   -- for this text's walks alone
set_option linter.unusedVariables false
set_option linter.unusedSimpArgs false
theorem partF_in {on : Int} {a : List Int} (ha : a.length = 4) (hk : okFilt on a) (j : Nat) (hj : j < 4) : In16 ((partF on a).getD j 0) := by
  unfold partF
  split
  · match j, hj with
    | 0, _ => unfold In16; decide
    | 1, _ => unfold In16; decide
    | 2, _ => unfold In16; decide
    | 3, _ => unfold In16; decide
  · exact (okFilt_k ha hk).2 j hj
set_option maxRecDepth 100000 in
set_option maxHeartbeats 8000000 in
theorem law_Runs.on (A : Option Addr) (c : Nat) (x : List Int) (a : List Int) (w : World) (hr : ReadsInt w .i32 A x.length x) (hc : x.length ≤ c) (hx : ∀ i, In32 (x.getD i 0)) (ha : a.length = 4) (hm : x.length ≤ 300) (hl : ¬ 120 < x.length) (hk : okFilt 1 a) :
    Calls Try.prog 12 #[.slice A x.length c, filtV 1 a] w fun e w' => e = .returned (.bool true) ∧ Below w.heap.size w w' := by
  have HR := Aside0.mk hr
  have HC := Aside0.mk hc
  have HN := Aside0.mk hm
  have HA := Aside0.mk ha
  have q300 : ¬ (300 : Int) < (x.length : Int) := by omega
  have q0 : ¬ (120 : Int) < (x.length : Int) := by omega
  have HPA := Aside0.mk (fun w_ => tns_Parts.any 1 a w_ ha hk)
  have HCK := Aside0.mk (fun w_ => tns_Check.calls 1 a ha 0 ⟨by rw [if_pos hk]⟩ w_)
  have HRC := Aside0.mk (fun w_ => show Calls Try.prog 44 #[filtV 1 a] w_ (fun e w' => e = .returned (.bool true) ∧ Below w_.heap.size w_ w') from (ref17_Check.calls 1 a ha w_).mono fun e w' ⟨b, he, hb, hl⟩ => ⟨by rw [he, hb.2 hk], hl⟩)
  have HRN := Aside0.mk (fun W (g : ReadsInt W .i32 A x.length x) => tns_Run.any A c x a 1 W ha g (by omega) hx hk)
  have HUN := Aside0.mk (fun W (g : ReadsInt W .i32 A x.length x) => tns_Undo.any A c x a 1 W ha g (by omega) hx hk)
  have HRU := Aside0.mk (fun W (g : ReadsInt W .i32 A x.length x) => ref17_Run.up A c x a W g (by omega) hx ha hk)
  have HRD := Aside0.mk (fun W (g : ReadsInt W .i32 A x.length x) => ref17_Run.down A c x a W g (by omega) hx ha hk)
  have HUL := Aside0.mk (upLines_length (partsL a) x)
  have HDL := Aside0.mk (downLines_length (partsL a) x)
  rw [show runF 1 a x = upLines (partsL a) x from rfl] at HRN
  rw [show undoF 1 a x = downLines (partsL a) x from rfl] at HUN
  generalize upLines (partsL a) x = U at HRN HRU HUL
  generalize downLines (partsL a) x = D at HUN HRD HDL
  have HPL := Aside0.mk (show (partF 1 a).length = 4 from by unfold partF partsL; split; rfl; rw [List.length_map]; exact ha)
  have HPP := Aside0.mk (show ∀ j, j < 4 → psalteryref17_Part.f 1000 (a.getD j 0) = some ((partF 1 a).getD j 0) from fun j hj => by
    have h1 := hk.2 j hj
    rw [rpart_of h1.1 (by omega)]
    unfold partF partsL; rw [if_neg (by decide), List.getD_eq_getElem?_getD (l := List.map _ _), List.getElem?_map, List.getD_eq_getElem?_getD, List.getElem?_eq_getElem (by omega)]; rfl)
  have HPW := Aside0.mk (show ∀ j, j < 4 → In16 ((partF 1 a).getD j 0) from fun j hj => partF_in ha hk j hj)
  generalize partF 1 a = PL at HPA HPP HPL HPW
  obtain ⟨a0, a1, a2, a3, h4⟩ := four ha
  have hV : filtV 1 a = .agg #[.int .i64 1, .int .i64 a0, .int .i64 a1, .int .i64 a2, .int .i64 a3] := by rw [h4]; rfl
  have HV := Aside0.mk (show (#[.int .i64 1, .int .i64 a0, .int .i64 a1, .int .i64 a2, .int .i64 a3] : Array Value) = (.int .i64 1 :: nums .i64 a).toArray from by rw [h4]; rfl)
  have HBB := Aside0.mk (below_alloc (Below.refl w.heap.size w) (.cells #[.int .i64 1, .int .i64 a0, .int .i64 a1, .int .i64 a2, .int .i64 a3] 63))
  have HBX := Aside0.mk (blk_new w (.cells #[.int .i64 1, .int .i64 a0, .int .i64 a1, .int .i64 a2, .int .i64 a3] 63))
  rw [hV] at HPA HCK HRC HRN HUN HRU HRD ⊢
  clear hr hc hx ha hm hl hk h4 hV
  go_enter Try.func12, Try.ntmps12
  go_wp2_with (first | (go_at_call 32; refine (HCK.out _).mono ?_; rintro e w6 ⟨rfl, hb_⟩; have HB6 := Aside0.mk (below_step HB5.out hb_); have HX6 := Aside0.mk (box_later HX5.out hb_); clear x0 x1 x2 x3 x4; have x0 := (blk_cell HX6.out 0).trans rfl; have x1 := (blk_cell HX6.out 1).trans rfl; have x2 := (blk_cell HX6.out 2).trans rfl; have x3 := (blk_cell HX6.out 3).trans rfl; have x4 := (blk_cell HX6.out 4).trans rfl; have HL6 := Aside0.mk (reads_below HL5.out hb_); have HQ6 := Aside0.mk (reads_below HQ5.out hb_); have HD6 := Aside0.mk (reads_below HD5.out hb_); clear hb_) | (go_at_call 44; refine (HRC.out _).mono ?_; rintro e w5 ⟨rfl, hb_⟩; have HB5 := Aside0.mk (below_step HB4.out hb_); have HX5 := Aside0.mk (box_later HX4.out hb_); clear x0 x1 x2 x3 x4; have x0 := (blk_cell HX5.out 0).trans rfl; have x1 := (blk_cell HX5.out 1).trans rfl; have x2 := (blk_cell HX5.out 2).trans rfl; have x3 := (blk_cell HX5.out 3).trans rfl; have x4 := (blk_cell HX5.out 4).trans rfl; have HL5 := Aside0.mk (reads_below HL4.out hb_); have HQ5 := Aside0.mk (reads_below HQ4.out hb_); have HD5 := Aside0.mk (reads_below HD4.out hb_); clear hb_) | (go_at_call 34; refine (HUN.out _ (reads_below HR.out HB3.out)).mono ?_; rintro e w4 ⟨v4, rfl, g1, hb_⟩; obtain ⟨A4, c4, rfl⟩ := own_slice g1; have HB4 := Aside0.mk (below_step HB3.out hb_); have HX4 := Aside0.mk (box_later HX3.out hb_); clear x0 x1 x2 x3 x4; have x0 := (blk_cell HX4.out 0).trans rfl; have x1 := (blk_cell HX4.out 1).trans rfl; have x2 := (blk_cell HX4.out 2).trans rfl; have x3 := (blk_cell HX4.out 3).trans rfl; have x4 := (blk_cell HX4.out 4).trans rfl; have HL4 := Aside0.mk (reads_below HL3.out hb_); have HQ4 := Aside0.mk (reads_below HQ3.out hb_); have HD4 := Aside0.mk (own_reads' g1); have HDC := Aside0.mk (own_cap g1); clear g1 hb_) | (go_at_call 33; refine (HRN.out _ (reads_below HR.out HB2.out)).mono ?_; rintro e w3 ⟨v3, rfl, g1, hb_⟩; obtain ⟨A3, c3, rfl⟩ := own_slice g1; have HB3 := Aside0.mk (below_step HB2.out hb_); have HX3 := Aside0.mk (box_later HX2.out hb_); clear x0 x1 x2 x3 x4; have x0 := (blk_cell HX3.out 0).trans rfl; have x1 := (blk_cell HX3.out 1).trans rfl; have x2 := (blk_cell HX3.out 2).trans rfl; have x3 := (blk_cell HX3.out 3).trans rfl; have x4 := (blk_cell HX3.out 4).trans rfl; have HL3 := Aside0.mk (reads_below HL2.out hb_); have HQ3 := Aside0.mk (own_reads' g1); have HQC := Aside0.mk (own_cap g1); clear g1 hb_) | (go_at_call 43; refine (HPA.out _).mono ?_; rintro e w2 ⟨v2, rfl, g1, hb_⟩; obtain ⟨A2, c2, rfl⟩ := own_slice g1; have HB2 := Aside0.mk (below_step HB1.out hb_); have HX2 := Aside0.mk (box_later HX1.out hb_); clear x0 x1 x2 x3 x4; have x0 := (blk_cell HX2.out 0).trans rfl; have x1 := (blk_cell HX2.out 1).trans rfl; have x2 := (blk_cell HX2.out 2).trans rfl; have x3 := (blk_cell HX2.out 3).trans rfl; have x4 := (blk_cell HX2.out 4).trans rfl; have HL2 := Aside0.mk (own_reads' g1); clear g1 hb_) | (go_at_call 29; refine (law17_alive.calls _).mono ?_; rintro e w1 ⟨rfl, hb_⟩; have HB1 := Aside0.mk (below_step HBB.out hb_); have HX1 := Aside0.mk (box_later HBX.out hb_); have x0 := (blk_cell HX1.out 0).trans rfl; have x1 := (blk_cell HX1.out 1).trans rfl; have x2 := (blk_cell HX1.out 2).trans rfl; have x3 := (blk_cell HX1.out 3).trans rfl; have x4 := (blk_cell HX1.out 4).trans rfl; clear hb_))
  have HXF := Aside0.mk (show w6.heap[w.heap.size]? = some (.cells (.int .i64 1 :: nums .i64 a).toArray 63 (0, 0)) from by rw [← HV.out]; exact HX6.out)
  clear x0 x1 x2 x3 x4
  try clear HX1 HX2 HX3 HX4 HX5 HX6 HB1 HB2 HB3 HB4 HB5 HPA HRC HCK HRN HUN HBB HBX
  go_loopg [4, 12, 13, 63, 64, 65, 66, 67, 68, 69, 70, 71, 72, 73, 74, 75, 76, 77, 78, 79, 80, 81, 82, 83, 84, 85, 86, 87, 88, 89] 4 (fun kq v4 v12 v13 v63 v64 v65 v66 v67 v68 v69 v70 v71 v72 v73 v74 v75 v76 v77 v78 v79 v80 v81 v82 v83 v84 v85 v86 v87 v88 v89 wx => ∃ j : Nat, v12 = .int .i64 (j : Int) ∧ v4 = .bool false ∧ Aside0 (kq + j = 4) ∧ Aside0 (wx.heap[w.heap.size]? = some (.cells (.int .i64 1 :: nums .i64 a).toArray 63 (0, 0))) ∧ Aside0 (Below w.heap.size w wx) ∧ Aside0 (ReadsInt wx .i16 A2 4 PL) ∧ Aside0 (ReadsInt wx .i32 A3 x.length U) ∧ Aside0 (ReadsInt wx .i32 A4 x.length D))
  case atStart => exact ⟨0, rfl, rfl, ⟨rfl⟩, HXF, HB6, HL6, HQ6, HD6⟩
  case round =>
    clear HXF HB6 HL6 HL2 HL3 HL4 HL5 HQ6 HD6 HQ3 HQ4 HQ5 HD4 HD5
    obtain ⟨j, rfl, rfl, HG, HX, HB, HL, HQ, HD⟩ := hrel
    by_cases hj : j < 4
    · have hj0 : (0 : Int) ≤ j := by omega
      have hj4 : (j : Int) < 4 := by omega
      obtain ⟨adl, eA, hcl⟩ := HL.out.2.2 (by omega)
      subst eA
      have hcj := hcl j hj
      have hd := (show wr.cell? ⟨w.heap.size, 1 + j, none⟩ = some (.int .i64 (a.getD j 0)) from by rw [blk_cell HX.out, Nat.add_comm]; exact cons_at (by rw [HA.out]; exact hj))
      have hP := HPP.out j hj
      have hpw := HPW.out j hj
      generalize PL.getD j 0 = pv at hcj hP hpw
      generalize a.getD j 0 = ix at hd hP
      have HP := Aside0.mk hP
      have hpw2 : IntKind.i64.wrap pv = pv := by rw [i64_w]; have := hpw.1; have := hpw.2; unfold wrap64; omega
      have hpw3 : wrap64 pv = pv := by have := hpw.1; have := hpw.2; unfold wrap64; omega
      have hwj : IntKind.i64.wrap ((j : Int) + 1) = ((j + 1 : Nat) : Int) := by rw [i64_w]; unfold wrap64; omega
      have x0 : wr.cell? ⟨w.heap.size, 0, none⟩ = some (.int .i64 1) := by rw [blk_cell HX.out]; rfl
      have hne0 : (pv != pv) = false := by simp
      obtain ⟨g0, rfl⟩ : ∃ g0, gk = g0 + 1 := ⟨gk - 1, by have := HG.out; omega⟩
      clear hcl hpw hj
      clear hP
      go_wp2_with (first | (go_at_call 45; refine (psalteryref17_Part.calls 1000 ix pv _ HP.out).mono ?_; rintro e w7 ⟨rfl, hb_⟩; have HB7 := Aside0.mk (below_step HB.out hb_); have HX7 := Aside0.mk (box_later HX.out hb_); have HL7 := Aside0.mk (reads_below HL.out hb_); have HQ7 := Aside0.mk (reads_below HQ.out hb_); have HD7 := Aside0.mk (reads_below HD.out hb_); have hcj7 := (hb_.cell (World.block_lt_of_cell? wr _ hcj)).trans hcj; clear hb_))
      go_roundg g0
      case measure => omega
      case rel => exact ⟨j + 1, by first | rfl | (congr 1; push_cast; rfl), rfl, ⟨by have := HG.out; omega⟩, HX7, HB7, HL7, HQ7, HD7⟩
    · obtain rfl : j = 4 := by have := HG.out; omega
      clear hj
      have HX6 := Aside0.mk (show wr.heap[w.heap.size]? = some (.cells #[.int .i64 1, .int .i64 a0, .int .i64 a1, .int .i64 a2, .int .i64 a3] 63 (0, 0)) from by rw [HV.out]; exact HX.out)
      have x0 := (blk_cell HX6.out 0).trans rfl
      have x1 := (blk_cell HX6.out 1).trans rfl
      have x2 := (blk_cell HX6.out 2).trans rfl
      have x3 := (blk_cell HX6.out 3).trans rfl
      have x4 := (blk_cell HX6.out 4).trans rfl
      go_wp2_with (first | (have hdep_ := HB9.out; clear hdep_; go_at_call 35; refine (same_int _ _ _ _ x.length D HDL.out (by have := HN.out; omega) _ (Kd.C_of_reads HD9.out) HDC.out (Kd.C_of_reads HE9.out) HEC.out).mono ?_; rintro e wb ⟨rfl, hb_⟩; have HBb := Aside0.mk (below_step HB9.out hb_); clear hb_) | (have hdep_ := HB8.out; clear hdep_; go_at_call 46; refine (HRD.out _ (reads_below HR.out HB8.out)).mono ?_; rintro e w9 ⟨v9_, rfl, g1, hb_⟩; obtain ⟨A9, c9, rfl⟩ := own_slice g1; have HB9 := Aside0.mk (below_step HB8.out hb_); have HD9 := Aside0.mk (reads_below HD8.out hb_); have HE9 := Aside0.mk (own_reads' g1); have HEC := Aside0.mk (own_cap g1); clear g1 hb_) | (go_at_call 35; refine (same_int _ _ _ _ x.length U HUL.out (by have := HN.out; omega) _ (Kd.C_of_reads HQ7.out) HQC.out (Kd.C_of_reads HE7.out) HFC.out).mono ?_; rintro e w8 ⟨rfl, hb_⟩; have HB8 := Aside0.mk (below_step HB7.out hb_); have HD8 := Aside0.mk (reads_below HD7.out hb_); have HX8 := Aside0.mk (box_later HX7.out hb_); clear x0 x1 x2 x3 x4; have x0 := (blk_cell HX8.out 0).trans rfl; have x1 := (blk_cell HX8.out 1).trans rfl; have x2 := (blk_cell HX8.out 2).trans rfl; have x3 := (blk_cell HX8.out 3).trans rfl; have x4 := (blk_cell HX8.out 4).trans rfl; clear hb_) | (go_at_call 46; refine (HRU.out _ (reads_below HR.out HB.out)).mono ?_; rintro e w7 ⟨v7_, rfl, g1, hb_⟩; obtain ⟨A7, c7, rfl⟩ := own_slice g1; have HB7 := Aside0.mk (below_step HB.out hb_); have HQ7 := Aside0.mk (reads_below HQ.out hb_); have HD7 := Aside0.mk (reads_below HD.out hb_); have HX7 := Aside0.mk (box_later HX6.out hb_); have HE7 := Aside0.mk (own_reads' g1); have HFC := Aside0.mk (own_cap g1); clear g1 hb_))
      exact bodyPost_ret (v := .bool true) (by simp [results, Try.results12, go_sem]) rfl ⟨rfl, HBb.out⟩
set_option maxRecDepth 100000 in
set_option maxHeartbeats 8000000 in
theorem law_Runs.off (A : Option Addr) (c : Nat) (x : List Int) (a : List Int) (w : World) (hr : ReadsInt w .i32 A x.length x) (hc : x.length ≤ c) (hx : ∀ i, In32 (x.getD i 0)) (ha : a.length = 4) (hm : x.length ≤ 300) (hl : ¬ 120 < x.length) (hk : okFilt 0 a) :
    Calls Try.prog 12 #[.slice A x.length c, filtV 0 a] w fun e w' => e = .returned (.bool true) ∧ Below w.heap.size w w' := by
  have HR := Aside0.mk hr
  have HC := Aside0.mk hc
  have HN := Aside0.mk hm
  have HA := Aside0.mk ha
  have q300 : ¬ (300 : Int) < (x.length : Int) := by omega
  have q0 : ¬ (120 : Int) < (x.length : Int) := by omega
  have HPA := Aside0.mk (fun w_ => tns_Parts.any 0 a w_ ha hk)
  have HCK := Aside0.mk (fun w_ => tns_Check.calls 0 a ha 0 ⟨by rw [if_pos hk]⟩ w_)
  have HRC := Aside0.mk (fun w_ => show Calls Try.prog 44 #[filtV 0 a] w_ (fun e w' => e = .returned (.bool true) ∧ Below w_.heap.size w_ w') from (ref17_Check.calls 0 a ha w_).mono fun e w' ⟨b, he, hb, hl⟩ => ⟨by rw [he, hb.2 hk], hl⟩)
  have HRN := Aside0.mk (fun W (g : ReadsInt W .i32 A x.length x) => tns_Run.any A c x a 0 W ha g (by omega) hx hk)
  have HUN := Aside0.mk (fun W (g : ReadsInt W .i32 A x.length x) => tns_Undo.any A c x a 0 W ha g (by omega) hx hk)
  rw [show runF 0 a x = x from rfl] at HRN
  rw [show undoF 0 a x = x from rfl] at HUN
  have HPL := Aside0.mk (show (partF 0 a).length = 4 from by unfold partF partsL; split; rfl; rw [List.length_map]; exact ha)
  have HPP := Aside0.mk (show ∀ j, j < 4 → 0 = (partF 0 a).getD j 0 from fun j hj => by
    show 0 = z4.getD j 0
    match j, hj with
    | 0, _ => rfl
    | 1, _ => rfl
    | 2, _ => rfl
    | 3, _ => rfl)
  have HPW := Aside0.mk (show ∀ j, j < 4 → In16 ((partF 0 a).getD j 0) from fun j hj => partF_in ha hk j hj)
  generalize partF 0 a = PL at HPA HPP HPL HPW
  obtain ⟨a0, a1, a2, a3, h4⟩ := four ha
  have hV : filtV 0 a = .agg #[.int .i64 0, .int .i64 a0, .int .i64 a1, .int .i64 a2, .int .i64 a3] := by rw [h4]; rfl
  have HV := Aside0.mk (show (#[.int .i64 0, .int .i64 a0, .int .i64 a1, .int .i64 a2, .int .i64 a3] : Array Value) = (.int .i64 0 :: nums .i64 a).toArray from by rw [h4]; rfl)
  have HBB := Aside0.mk (below_alloc (Below.refl w.heap.size w) (.cells #[.int .i64 0, .int .i64 a0, .int .i64 a1, .int .i64 a2, .int .i64 a3] 63))
  have HBX := Aside0.mk (blk_new w (.cells #[.int .i64 0, .int .i64 a0, .int .i64 a1, .int .i64 a2, .int .i64 a3] 63))
  rw [hV] at HPA HCK HRC HRN HUN ⊢
  clear hr hc hx ha hm hl hk h4 hV
  go_enter Try.func12, Try.ntmps12
  go_wp2_with (first | (go_at_call 32; refine (HCK.out _).mono ?_; rintro e w6 ⟨rfl, hb_⟩; have HB6 := Aside0.mk (below_step HB5.out hb_); have HX6 := Aside0.mk (box_later HX5.out hb_); clear x0 x1 x2 x3 x4; have x0 := (blk_cell HX6.out 0).trans rfl; have x1 := (blk_cell HX6.out 1).trans rfl; have x2 := (blk_cell HX6.out 2).trans rfl; have x3 := (blk_cell HX6.out 3).trans rfl; have x4 := (blk_cell HX6.out 4).trans rfl; have HL6 := Aside0.mk (reads_below HL5.out hb_); have HQ6 := Aside0.mk (reads_below HQ5.out hb_); have HD6 := Aside0.mk (reads_below HD5.out hb_); clear hb_) | (go_at_call 44; refine (HRC.out _).mono ?_; rintro e w5 ⟨rfl, hb_⟩; have HB5 := Aside0.mk (below_step HB4.out hb_); have HX5 := Aside0.mk (box_later HX4.out hb_); clear x0 x1 x2 x3 x4; have x0 := (blk_cell HX5.out 0).trans rfl; have x1 := (blk_cell HX5.out 1).trans rfl; have x2 := (blk_cell HX5.out 2).trans rfl; have x3 := (blk_cell HX5.out 3).trans rfl; have x4 := (blk_cell HX5.out 4).trans rfl; have HL5 := Aside0.mk (reads_below HL4.out hb_); have HQ5 := Aside0.mk (reads_below HQ4.out hb_); have HD5 := Aside0.mk (reads_below HD4.out hb_); clear hb_) | (go_at_call 34; refine (HUN.out _ (reads_below HR.out HB3.out)).mono ?_; rintro e w4 ⟨v4, rfl, g1, hb_⟩; obtain ⟨A4, c4, rfl⟩ := own_slice g1; have HB4 := Aside0.mk (below_step HB3.out hb_); have HX4 := Aside0.mk (box_later HX3.out hb_); clear x0 x1 x2 x3 x4; have x0 := (blk_cell HX4.out 0).trans rfl; have x1 := (blk_cell HX4.out 1).trans rfl; have x2 := (blk_cell HX4.out 2).trans rfl; have x3 := (blk_cell HX4.out 3).trans rfl; have x4 := (blk_cell HX4.out 4).trans rfl; have HL4 := Aside0.mk (reads_below HL3.out hb_); have HQ4 := Aside0.mk (reads_below HQ3.out hb_); have HD4 := Aside0.mk (own_reads' g1); have HDC := Aside0.mk (own_cap g1); clear g1 hb_) | (go_at_call 33; refine (HRN.out _ (reads_below HR.out HB2.out)).mono ?_; rintro e w3 ⟨v3, rfl, g1, hb_⟩; obtain ⟨A3, c3, rfl⟩ := own_slice g1; have HB3 := Aside0.mk (below_step HB2.out hb_); have HX3 := Aside0.mk (box_later HX2.out hb_); clear x0 x1 x2 x3 x4; have x0 := (blk_cell HX3.out 0).trans rfl; have x1 := (blk_cell HX3.out 1).trans rfl; have x2 := (blk_cell HX3.out 2).trans rfl; have x3 := (blk_cell HX3.out 3).trans rfl; have x4 := (blk_cell HX3.out 4).trans rfl; have HL3 := Aside0.mk (reads_below HL2.out hb_); have HQ3 := Aside0.mk (own_reads' g1); have HQC := Aside0.mk (own_cap g1); clear g1 hb_) | (go_at_call 43; refine (HPA.out _).mono ?_; rintro e w2 ⟨v2, rfl, g1, hb_⟩; obtain ⟨A2, c2, rfl⟩ := own_slice g1; have HB2 := Aside0.mk (below_step HB1.out hb_); have HX2 := Aside0.mk (box_later HX1.out hb_); clear x0 x1 x2 x3 x4; have x0 := (blk_cell HX2.out 0).trans rfl; have x1 := (blk_cell HX2.out 1).trans rfl; have x2 := (blk_cell HX2.out 2).trans rfl; have x3 := (blk_cell HX2.out 3).trans rfl; have x4 := (blk_cell HX2.out 4).trans rfl; have HL2 := Aside0.mk (own_reads' g1); clear g1 hb_) | (go_at_call 29; refine (law17_alive.calls _).mono ?_; rintro e w1 ⟨rfl, hb_⟩; have HB1 := Aside0.mk (below_step HBB.out hb_); have HX1 := Aside0.mk (box_later HBX.out hb_); have x0 := (blk_cell HX1.out 0).trans rfl; have x1 := (blk_cell HX1.out 1).trans rfl; have x2 := (blk_cell HX1.out 2).trans rfl; have x3 := (blk_cell HX1.out 3).trans rfl; have x4 := (blk_cell HX1.out 4).trans rfl; clear hb_))
  have HXF := Aside0.mk (show w6.heap[w.heap.size]? = some (.cells (.int .i64 0 :: nums .i64 a).toArray 63 (0, 0)) from by rw [← HV.out]; exact HX6.out)
  clear x0 x1 x2 x3 x4
  try clear HX1 HX2 HX3 HX4 HX5 HX6 HB1 HB2 HB3 HB4 HB5 HPA HRC HCK HRN HUN HBB HBX
  go_loopg [4, 12, 13, 63, 64, 65, 66, 67, 68, 69, 70, 71, 72, 73, 74, 75, 76, 77, 78, 79, 80, 81, 82, 83, 84, 85, 86, 87, 88, 89] 4 (fun kq v4 v12 v13 v63 v64 v65 v66 v67 v68 v69 v70 v71 v72 v73 v74 v75 v76 v77 v78 v79 v80 v81 v82 v83 v84 v85 v86 v87 v88 v89 wx => ∃ j : Nat, v12 = .int .i64 (j : Int) ∧ v4 = .bool false ∧ Aside0 (kq + j = 4) ∧ Aside0 (wx.heap[w.heap.size]? = some (.cells (.int .i64 0 :: nums .i64 a).toArray 63 (0, 0))) ∧ Aside0 (Below w.heap.size w wx) ∧ Aside0 (ReadsInt wx .i16 A2 4 PL) ∧ Aside0 (ReadsInt wx .i32 A3 x.length x) ∧ Aside0 (ReadsInt wx .i32 A4 x.length x))
  case atStart => exact ⟨0, rfl, rfl, ⟨rfl⟩, HXF, HB6, HL6, HQ6, HD6⟩
  case round =>
    clear HXF HB6 HL6 HL2 HL3 HL4 HL5 HQ6 HD6 HQ3 HQ4 HQ5 HD4 HD5
    obtain ⟨j, rfl, rfl, HG, HX, HB, HL, HQ, HD⟩ := hrel
    by_cases hj : j < 4
    · have hj0 : (0 : Int) ≤ j := by omega
      have hj4 : (j : Int) < 4 := by omega
      obtain ⟨adl, eA, hcl⟩ := HL.out.2.2 (by omega)
      subst eA
      have hcj := hcl j hj
      have hd := (show wr.cell? ⟨w.heap.size, 1 + j, none⟩ = some (.int .i64 (a.getD j 0)) from by rw [blk_cell HX.out, Nat.add_comm]; exact cons_at (by rw [HA.out]; exact hj))
      have hP := HPP.out j hj
      have hpw := HPW.out j hj
      generalize PL.getD j 0 = pv at hcj hP hpw
      generalize a.getD j 0 = ix at hd
      have HP := Aside0.mk hP
      have hpw2 : IntKind.i64.wrap pv = pv := by rw [i64_w]; have := hpw.1; have := hpw.2; unfold wrap64; omega
      have hpw3 : wrap64 pv = pv := by have := hpw.1; have := hpw.2; unfold wrap64; omega
      have hwj : IntKind.i64.wrap ((j : Int) + 1) = ((j + 1 : Nat) : Int) := by rw [i64_w]; unfold wrap64; omega
      have x0 : wr.cell? ⟨w.heap.size, 0, none⟩ = some (.int .i64 0) := by rw [blk_cell HX.out]; rfl
      have hne0 : (pv != pv) = false := by simp
      obtain ⟨g0, rfl⟩ : ∃ g0, gk = g0 + 1 := ⟨gk - 1, by have := HG.out; omega⟩
      clear hcl hpw hj
      have hP0 : pv = 0 := hP.symm
      rw [hP0] at hcj
      clear hP hP0 hpw2 hpw3 hne0
      go_wp2
      go_roundg g0
      case measure => omega
      case rel => exact ⟨j + 1, by first | rfl | (congr 1; push_cast; rfl), rfl, ⟨by have := HG.out; omega⟩, HX, HB, HL, HQ, HD⟩
    · obtain rfl : j = 4 := by have := HG.out; omega
      clear hj
      have x0 : wr.cell? ⟨w.heap.size, 0, none⟩ = some (.int .i64 0) := by rw [blk_cell HX.out]; rfl
      go_wp2_with (first | (have hdep_ := HB7.out; clear hdep_; go_at_call 35; refine (same_int _ _ _ _ x.length x rfl (by have := HN.out; omega) _ (Kd.C_of_reads HD7.out) HDC.out (Kd.C_of_reads (reads_below HR.out HB7.out)) HC.out).mono ?_; rintro e w8 ⟨rfl, hb_⟩; have HB8 := Aside0.mk (below_step HB7.out hb_); clear hb_) | (go_at_call 35; refine (same_int _ _ _ _ x.length x rfl (by have := HN.out; omega) _ (Kd.C_of_reads HQ.out) HQC.out (Kd.C_of_reads (reads_below HR.out HB.out)) HC.out).mono ?_; rintro e w7 ⟨rfl, hb_⟩; have HB7 := Aside0.mk (below_step HB.out hb_); have HD7 := Aside0.mk (reads_below HD.out hb_); clear hb_))
      exact bodyPost_ret (v := .bool true) (by simp [results, Try.results12, go_sem]) rfl ⟨rfl, HB8.out⟩
set_option maxRecDepth 100000 in
set_option maxHeartbeats 8000000 in
theorem law_Runs.bad (A : Option Addr) (c : Nat) (x : List Int) (on : Int) (a : List Int) (w : World) (hr : ReadsInt w .i32 A x.length x) (hc : x.length ≤ c) (hx : ∀ i, In32 (x.getD i 0)) (ha : a.length = 4) (hm : x.length ≤ 300) (hl : ¬ 120 < x.length) (hk : ¬ okFilt on a) :
    Calls Try.prog 12 #[.slice A x.length c, filtV on a] w fun e w' => e = .returned (.bool true) ∧ Below w.heap.size w w' := by
  have HR := Aside0.mk hr
  have HC := Aside0.mk hc
  have HN := Aside0.mk hm
  have HA := Aside0.mk ha
  have q300 : ¬ (300 : Int) < (x.length : Int) := by omega
  have q0 : ¬ (120 : Int) < (x.length : Int) := by omega
  have HPA := Aside0.mk (fun w_ => tns_Parts.bad on a w_ ha hk)
  have HCK := Aside0.mk (fun w_ => tns_Check.calls on a ha 1 ⟨by rw [if_neg hk]⟩ w_)
  have HRC := Aside0.mk (fun w_ => show Calls Try.prog 44 #[filtV on a] w_ (fun e w' => e = .returned (.bool false) ∧ Below w_.heap.size w_ w') from (ref17_Check.calls on a ha w_).mono fun e w' ⟨b, he, hb, hl⟩ => ⟨by rw [he]; cases b; rfl; exact absurd (hb.1 rfl) hk, hl⟩)
  have HRN := Aside0.mk (fun W => tns_Run.bad A c x a on W ha hl hk)
  have HUN := Aside0.mk (fun W => tns_Undo.bad A c x a on W ha hl hk)
  obtain ⟨a0, a1, a2, a3, h4⟩ := four ha
  have hV : filtV on a = .agg #[.int .i64 on, .int .i64 a0, .int .i64 a1, .int .i64 a2, .int .i64 a3] := by rw [h4]; rfl
  have HV := Aside0.mk (show (#[.int .i64 on, .int .i64 a0, .int .i64 a1, .int .i64 a2, .int .i64 a3] : Array Value) = (.int .i64 on :: nums .i64 a).toArray from by rw [h4]; rfl)
  have HBB := Aside0.mk (below_alloc (Below.refl w.heap.size w) (.cells #[.int .i64 on, .int .i64 a0, .int .i64 a1, .int .i64 a2, .int .i64 a3] 63))
  have HBX := Aside0.mk (blk_new w (.cells #[.int .i64 on, .int .i64 a0, .int .i64 a1, .int .i64 a2, .int .i64 a3] 63))
  rw [hV] at HPA HCK HRC HRN HUN ⊢
  clear hr hc hx ha hm hl hk h4 hV
  go_enter Try.func12, Try.ntmps12
  go_wp2_with (first | (go_at_call 32; refine (HCK.out _).mono ?_; rintro e w6 ⟨rfl, hb_⟩; have HB6 := Aside0.mk (below_step HB5.out hb_); have HX6 := Aside0.mk (box_later HX5.out hb_); clear x0 x1 x2 x3 x4; have x0 := (blk_cell HX6.out 0).trans rfl; have x1 := (blk_cell HX6.out 1).trans rfl; have x2 := (blk_cell HX6.out 2).trans rfl; have x3 := (blk_cell HX6.out 3).trans rfl; have x4 := (blk_cell HX6.out 4).trans rfl; clear hb_) | (go_at_call 44; refine (HRC.out _).mono ?_; rintro e w5 ⟨rfl, hb_⟩; have HB5 := Aside0.mk (below_step HB4.out hb_); have HX5 := Aside0.mk (box_later HX4.out hb_); clear x0 x1 x2 x3 x4; have x0 := (blk_cell HX5.out 0).trans rfl; have x1 := (blk_cell HX5.out 1).trans rfl; have x2 := (blk_cell HX5.out 2).trans rfl; have x3 := (blk_cell HX5.out 3).trans rfl; have x4 := (blk_cell HX5.out 4).trans rfl; clear hb_) | (go_at_call 34; refine (HUN.out _).mono ?_; rintro e w4 ⟨rfl, hb_⟩; have HB4 := Aside0.mk (below_step HB3.out hb_); have HX4 := Aside0.mk (box_later HX3.out hb_); clear x0 x1 x2 x3 x4; have x0 := (blk_cell HX4.out 0).trans rfl; have x1 := (blk_cell HX4.out 1).trans rfl; have x2 := (blk_cell HX4.out 2).trans rfl; have x3 := (blk_cell HX4.out 3).trans rfl; have x4 := (blk_cell HX4.out 4).trans rfl; clear hb_) | (go_at_call 33; refine (HRN.out _).mono ?_; rintro e w3 ⟨rfl, hb_⟩; have HB3 := Aside0.mk (below_step HB2.out hb_); have HX3 := Aside0.mk (box_later HX2.out hb_); clear x0 x1 x2 x3 x4; have x0 := (blk_cell HX3.out 0).trans rfl; have x1 := (blk_cell HX3.out 1).trans rfl; have x2 := (blk_cell HX3.out 2).trans rfl; have x3 := (blk_cell HX3.out 3).trans rfl; have x4 := (blk_cell HX3.out 4).trans rfl; clear hb_) | (go_at_call 43; refine (HPA.out _).mono ?_; rintro e w2 ⟨rfl, hb_⟩; have HB2 := Aside0.mk (below_step HB1.out hb_); have HX2 := Aside0.mk (box_later HX1.out hb_); clear x0 x1 x2 x3 x4; have x0 := (blk_cell HX2.out 0).trans rfl; have x1 := (blk_cell HX2.out 1).trans rfl; have x2 := (blk_cell HX2.out 2).trans rfl; have x3 := (blk_cell HX2.out 3).trans rfl; have x4 := (blk_cell HX2.out 4).trans rfl; clear hb_) | (go_at_call 29; refine (law17_alive.calls _).mono ?_; rintro e w1 ⟨rfl, hb_⟩; have HB1 := Aside0.mk (below_step HBB.out hb_); have HX1 := Aside0.mk (box_later HBX.out hb_); have x0 := (blk_cell HX1.out 0).trans rfl; have x1 := (blk_cell HX1.out 1).trans rfl; have x2 := (blk_cell HX1.out 2).trans rfl; have x3 := (blk_cell HX1.out 3).trans rfl; have x4 := (blk_cell HX1.out 4).trans rfl; clear hb_))
  have HXF := Aside0.mk (show w6.heap[w.heap.size]? = some (.cells (.int .i64 on :: nums .i64 a).toArray 63 (0, 0)) from by rw [← HV.out]; exact HX6.out)
  clear x0 x1 x2 x3 x4
  try clear HX1 HX2 HX3 HX4 HX5 HX6 HB1 HB2 HB3 HB4 HB5 HPA HRC HCK HRN HUN HBB HBX
  go_loopg [4, 12, 13, 63, 64, 65, 66, 67, 68, 69, 70, 71, 72, 73, 74, 75, 76, 77, 78, 79, 80, 81, 82, 83, 84, 85, 86, 87, 88, 89] 4 (fun kq v4 v12 v13 v63 v64 v65 v66 v67 v68 v69 v70 v71 v72 v73 v74 v75 v76 v77 v78 v79 v80 v81 v82 v83 v84 v85 v86 v87 v88 v89 wx => ∃ j : Nat, v12 = .int .i64 0 ∧ v4 = .bool false ∧ Aside0 (kq + j = 4) ∧ Aside0 (wx.heap[w.heap.size]? = some (.cells (.int .i64 on :: nums .i64 a).toArray 63 (0, 0))) ∧ Aside0 (Below w.heap.size w wx))
  case atStart => exact ⟨0, rfl, rfl, ⟨rfl⟩, HXF, HB6⟩
  case round =>
    clear HXF HB6  
    obtain ⟨j, rfl, rfl, HG, HX, HB⟩ := hrel
    go_wp2
    exact bodyPost_ret (v := .bool true) (by simp [results, Try.results12, go_sem]) rfl ⟨rfl, HB.out⟩
set_option maxRecDepth 100000 in
set_option maxHeartbeats 8000000 in
theorem law_Runs.lbad (A : Option Addr) (c : Nat) (x : List Int) (on : Int) (a : List Int) (w : World) (hr : ReadsInt w .i32 A x.length x) (hc : x.length ≤ c) (hx : ∀ i, In32 (x.getD i 0)) (ha : a.length = 4) (hm : x.length ≤ 300) (hl : 120 < x.length) (hk : ¬ okFilt on a) :
    Calls Try.prog 12 #[.slice A x.length c, filtV on a] w fun e w' => e = .returned (.bool true) ∧ Below w.heap.size w w' := by
  have HR := Aside0.mk hr
  have HC := Aside0.mk hc
  have HN := Aside0.mk hm
  have HA := Aside0.mk ha
  have q300 : ¬ (300 : Int) < (x.length : Int) := by omega
  have q0 : (120 : Int) < (x.length : Int) := by omega
  have HPA := Aside0.mk (fun w_ => tns_Parts.bad on a w_ ha hk)
  have HCK := Aside0.mk (fun w_ => tns_Check.calls on a ha 1 ⟨by rw [if_neg hk]⟩ w_)
  have HRC := Aside0.mk (fun w_ => show Calls Try.prog 44 #[filtV on a] w_ (fun e w' => e = .returned (.bool false) ∧ Below w_.heap.size w_ w') from (ref17_Check.calls on a ha w_).mono fun e w' ⟨b, he, hb, hl⟩ => ⟨by rw [he]; cases b; rfl; exact absurd (hb.1 rfl) hk, hl⟩)
  have HRN := Aside0.mk (fun W => tns_Run.long A c x a on W ha hl)
  have HUN := Aside0.mk (fun W => tns_Undo.long A c x a on W ha hl)
  obtain ⟨a0, a1, a2, a3, h4⟩ := four ha
  have hV : filtV on a = .agg #[.int .i64 on, .int .i64 a0, .int .i64 a1, .int .i64 a2, .int .i64 a3] := by rw [h4]; rfl
  have HV := Aside0.mk (show (#[.int .i64 on, .int .i64 a0, .int .i64 a1, .int .i64 a2, .int .i64 a3] : Array Value) = (.int .i64 on :: nums .i64 a).toArray from by rw [h4]; rfl)
  have HBB := Aside0.mk (below_alloc (Below.refl w.heap.size w) (.cells #[.int .i64 on, .int .i64 a0, .int .i64 a1, .int .i64 a2, .int .i64 a3] 63))
  have HBX := Aside0.mk (blk_new w (.cells #[.int .i64 on, .int .i64 a0, .int .i64 a1, .int .i64 a2, .int .i64 a3] 63))
  rw [hV] at HPA HCK HRC HRN HUN ⊢
  clear hr hc hx ha hm hl hk h4 hV
  go_enter Try.func12, Try.ntmps12
  go_wp2_with (first | (go_at_call 32; refine (HCK.out _).mono ?_; rintro e w6 ⟨rfl, hb_⟩; have HB6 := Aside0.mk (below_step HB5.out hb_); have HX6 := Aside0.mk (box_later HX5.out hb_); clear x0 x1 x2 x3 x4; have x0 := (blk_cell HX6.out 0).trans rfl; have x1 := (blk_cell HX6.out 1).trans rfl; have x2 := (blk_cell HX6.out 2).trans rfl; have x3 := (blk_cell HX6.out 3).trans rfl; have x4 := (blk_cell HX6.out 4).trans rfl; clear hb_) | (go_at_call 44; refine (HRC.out _).mono ?_; rintro e w5 ⟨rfl, hb_⟩; have HB5 := Aside0.mk (below_step HB4.out hb_); have HX5 := Aside0.mk (box_later HX4.out hb_); clear x0 x1 x2 x3 x4; have x0 := (blk_cell HX5.out 0).trans rfl; have x1 := (blk_cell HX5.out 1).trans rfl; have x2 := (blk_cell HX5.out 2).trans rfl; have x3 := (blk_cell HX5.out 3).trans rfl; have x4 := (blk_cell HX5.out 4).trans rfl; clear hb_) | (go_at_call 34; refine (HUN.out _).mono ?_; rintro e w4 ⟨rfl, hb_⟩; have HB4 := Aside0.mk (below_step HB3.out hb_); have HX4 := Aside0.mk (box_later HX3.out hb_); clear x0 x1 x2 x3 x4; have x0 := (blk_cell HX4.out 0).trans rfl; have x1 := (blk_cell HX4.out 1).trans rfl; have x2 := (blk_cell HX4.out 2).trans rfl; have x3 := (blk_cell HX4.out 3).trans rfl; have x4 := (blk_cell HX4.out 4).trans rfl; clear hb_) | (go_at_call 33; refine (HRN.out _).mono ?_; rintro e w3 ⟨rfl, hb_⟩; have HB3 := Aside0.mk (below_step HB2.out hb_); have HX3 := Aside0.mk (box_later HX2.out hb_); clear x0 x1 x2 x3 x4; have x0 := (blk_cell HX3.out 0).trans rfl; have x1 := (blk_cell HX3.out 1).trans rfl; have x2 := (blk_cell HX3.out 2).trans rfl; have x3 := (blk_cell HX3.out 3).trans rfl; have x4 := (blk_cell HX3.out 4).trans rfl; clear hb_) | (go_at_call 43; refine (HPA.out _).mono ?_; rintro e w2 ⟨rfl, hb_⟩; have HB2 := Aside0.mk (below_step HB1.out hb_); have HX2 := Aside0.mk (box_later HX1.out hb_); clear x0 x1 x2 x3 x4; have x0 := (blk_cell HX2.out 0).trans rfl; have x1 := (blk_cell HX2.out 1).trans rfl; have x2 := (blk_cell HX2.out 2).trans rfl; have x3 := (blk_cell HX2.out 3).trans rfl; have x4 := (blk_cell HX2.out 4).trans rfl; clear hb_) | (go_at_call 29; refine (law17_alive.calls _).mono ?_; rintro e w1 ⟨rfl, hb_⟩; have HB1 := Aside0.mk (below_step HBB.out hb_); have HX1 := Aside0.mk (box_later HBX.out hb_); have x0 := (blk_cell HX1.out 0).trans rfl; have x1 := (blk_cell HX1.out 1).trans rfl; have x2 := (blk_cell HX1.out 2).trans rfl; have x3 := (blk_cell HX1.out 3).trans rfl; have x4 := (blk_cell HX1.out 4).trans rfl; clear hb_))
  have HXF := Aside0.mk (show w6.heap[w.heap.size]? = some (.cells (.int .i64 on :: nums .i64 a).toArray 63 (0, 0)) from by rw [← HV.out]; exact HX6.out)
  clear x0 x1 x2 x3 x4
  try clear HX1 HX2 HX3 HX4 HX5 HX6 HB1 HB2 HB3 HB4 HB5 HPA HRC HCK HRN HUN HBB HBX
  go_loopg [4, 12, 13, 63, 64, 65, 66, 67, 68, 69, 70, 71, 72, 73, 74, 75, 76, 77, 78, 79, 80, 81, 82, 83, 84, 85, 86, 87, 88, 89] 4 (fun kq v4 v12 v13 v63 v64 v65 v66 v67 v68 v69 v70 v71 v72 v73 v74 v75 v76 v77 v78 v79 v80 v81 v82 v83 v84 v85 v86 v87 v88 v89 wx => ∃ j : Nat, v12 = .int .i64 0 ∧ v4 = .bool false ∧ Aside0 (kq + j = 4) ∧ Aside0 (wx.heap[w.heap.size]? = some (.cells (.int .i64 on :: nums .i64 a).toArray 63 (0, 0))) ∧ Aside0 (Below w.heap.size w wx))
  case atStart => exact ⟨0, rfl, rfl, ⟨rfl⟩, HXF, HB6⟩
  case round =>
    clear HXF HB6  
    obtain ⟨j, rfl, rfl, HG, HX, HB⟩ := hrel
    go_wp2
    exact bodyPost_ret (v := .bool true) (by simp [results, Try.results12, go_sem]) rfl ⟨rfl, HB.out⟩
set_option maxRecDepth 100000 in
set_option maxHeartbeats 8000000 in
theorem law_Runs.lok (A : Option Addr) (c : Nat) (x : List Int) (on : Int) (a : List Int) (w : World) (hr : ReadsInt w .i32 A x.length x) (hc : x.length ≤ c) (hx : ∀ i, In32 (x.getD i 0)) (ha : a.length = 4) (hm : x.length ≤ 300) (hl : 120 < x.length) (hk : okFilt on a) :
    Calls Try.prog 12 #[.slice A x.length c, filtV on a] w fun e w' => e = .returned (.bool true) ∧ Below w.heap.size w w' := by
  have HR := Aside0.mk hr
  have HC := Aside0.mk hc
  have HN := Aside0.mk hm
  have HA := Aside0.mk ha
  have q300 : ¬ (300 : Int) < (x.length : Int) := by omega
  have q0 : (120 : Int) < (x.length : Int) := by omega
  have HPA := Aside0.mk (fun w_ => tns_Parts.any on a w_ ha hk)
  have HCK := Aside0.mk (fun w_ => tns_Check.calls on a ha 0 ⟨by rw [if_pos hk]⟩ w_)
  have HRC := Aside0.mk (fun w_ => show Calls Try.prog 44 #[filtV on a] w_ (fun e w' => e = .returned (.bool true) ∧ Below w_.heap.size w_ w') from (ref17_Check.calls on a ha w_).mono fun e w' ⟨b, he, hb, hl⟩ => ⟨by rw [he, hb.2 hk], hl⟩)
  have HRN := Aside0.mk (fun W => tns_Run.long A c x a on W ha hl)
  have HUN := Aside0.mk (fun W => tns_Undo.long A c x a on W ha hl)
  have HPL := Aside0.mk (show (partF on a).length = 4 from by unfold partF partsL; split; rfl; rw [List.length_map]; exact ha)
  have HPP := Aside0.mk (show (on == 1) = true ∧ (∀ j, j < 4 → psalteryref17_Part.f 1000 (a.getD j 0) = some ((partF on a).getD j 0)) ∨ (on == 1) = false ∧ (∀ j, j < 4 → 0 = (partF on a).getD j 0) from by
    rcases hk.1 with rfl | rfl
    · refine .inr ⟨rfl, fun j hj => ?_⟩
      show 0 = z4.getD j 0
      match j, hj with
      | 0, _ => rfl
      | 1, _ => rfl
      | 2, _ => rfl
      | 3, _ => rfl
    · refine .inl ⟨rfl, fun j hj => ?_⟩
      have h1 := hk.2 j hj
      rw [rpart_of h1.1 (by omega)]
      unfold partF partsL; rw [if_neg (by decide), List.getD_eq_getElem?_getD (l := List.map _ _), List.getElem?_map, List.getD_eq_getElem?_getD, List.getElem?_eq_getElem (by omega)]; rfl)
  have HPW := Aside0.mk (show ∀ j, j < 4 → In16 ((partF on a).getD j 0) from fun j hj => partF_in ha hk j hj)
  generalize partF on a = PL at HPA HPP HPL HPW
  obtain ⟨a0, a1, a2, a3, h4⟩ := four ha
  have hV : filtV on a = .agg #[.int .i64 on, .int .i64 a0, .int .i64 a1, .int .i64 a2, .int .i64 a3] := by rw [h4]; rfl
  have HV := Aside0.mk (show (#[.int .i64 on, .int .i64 a0, .int .i64 a1, .int .i64 a2, .int .i64 a3] : Array Value) = (.int .i64 on :: nums .i64 a).toArray from by rw [h4]; rfl)
  have HBB := Aside0.mk (below_alloc (Below.refl w.heap.size w) (.cells #[.int .i64 on, .int .i64 a0, .int .i64 a1, .int .i64 a2, .int .i64 a3] 63))
  have HBX := Aside0.mk (blk_new w (.cells #[.int .i64 on, .int .i64 a0, .int .i64 a1, .int .i64 a2, .int .i64 a3] 63))
  rw [hV] at HPA HCK HRC HRN HUN ⊢
  clear hr hc hx ha hm hl hk h4 hV
  go_enter Try.func12, Try.ntmps12
  go_wp2_with (first | (go_at_call 32; refine (HCK.out _).mono ?_; rintro e w6 ⟨rfl, hb_⟩; have HB6 := Aside0.mk (below_step HB5.out hb_); have HX6 := Aside0.mk (box_later HX5.out hb_); clear x0 x1 x2 x3 x4; have x0 := (blk_cell HX6.out 0).trans rfl; have x1 := (blk_cell HX6.out 1).trans rfl; have x2 := (blk_cell HX6.out 2).trans rfl; have x3 := (blk_cell HX6.out 3).trans rfl; have x4 := (blk_cell HX6.out 4).trans rfl; have HL6 := Aside0.mk (reads_below HL5.out hb_); clear hb_) | (go_at_call 44; refine (HRC.out _).mono ?_; rintro e w5 ⟨rfl, hb_⟩; have HB5 := Aside0.mk (below_step HB4.out hb_); have HX5 := Aside0.mk (box_later HX4.out hb_); clear x0 x1 x2 x3 x4; have x0 := (blk_cell HX5.out 0).trans rfl; have x1 := (blk_cell HX5.out 1).trans rfl; have x2 := (blk_cell HX5.out 2).trans rfl; have x3 := (blk_cell HX5.out 3).trans rfl; have x4 := (blk_cell HX5.out 4).trans rfl; have HL5 := Aside0.mk (reads_below HL4.out hb_); clear hb_) | (go_at_call 34; refine (HUN.out _).mono ?_; rintro e w4 ⟨rfl, hb_⟩; have HB4 := Aside0.mk (below_step HB3.out hb_); have HX4 := Aside0.mk (box_later HX3.out hb_); clear x0 x1 x2 x3 x4; have x0 := (blk_cell HX4.out 0).trans rfl; have x1 := (blk_cell HX4.out 1).trans rfl; have x2 := (blk_cell HX4.out 2).trans rfl; have x3 := (blk_cell HX4.out 3).trans rfl; have x4 := (blk_cell HX4.out 4).trans rfl; have HL4 := Aside0.mk (reads_below HL3.out hb_); clear hb_) | (go_at_call 33; refine (HRN.out _).mono ?_; rintro e w3 ⟨rfl, hb_⟩; have HB3 := Aside0.mk (below_step HB2.out hb_); have HX3 := Aside0.mk (box_later HX2.out hb_); clear x0 x1 x2 x3 x4; have x0 := (blk_cell HX3.out 0).trans rfl; have x1 := (blk_cell HX3.out 1).trans rfl; have x2 := (blk_cell HX3.out 2).trans rfl; have x3 := (blk_cell HX3.out 3).trans rfl; have x4 := (blk_cell HX3.out 4).trans rfl; have HL3 := Aside0.mk (reads_below HL2.out hb_); clear hb_) | (go_at_call 43; refine (HPA.out _).mono ?_; rintro e w2 ⟨v2, rfl, g1, hb_⟩; obtain ⟨A2, c2, rfl⟩ := own_slice g1; have HB2 := Aside0.mk (below_step HB1.out hb_); have HX2 := Aside0.mk (box_later HX1.out hb_); clear x0 x1 x2 x3 x4; have x0 := (blk_cell HX2.out 0).trans rfl; have x1 := (blk_cell HX2.out 1).trans rfl; have x2 := (blk_cell HX2.out 2).trans rfl; have x3 := (blk_cell HX2.out 3).trans rfl; have x4 := (blk_cell HX2.out 4).trans rfl; have HL2 := Aside0.mk (own_reads' g1); clear g1 hb_) | (go_at_call 29; refine (law17_alive.calls _).mono ?_; rintro e w1 ⟨rfl, hb_⟩; have HB1 := Aside0.mk (below_step HBB.out hb_); have HX1 := Aside0.mk (box_later HBX.out hb_); have x0 := (blk_cell HX1.out 0).trans rfl; have x1 := (blk_cell HX1.out 1).trans rfl; have x2 := (blk_cell HX1.out 2).trans rfl; have x3 := (blk_cell HX1.out 3).trans rfl; have x4 := (blk_cell HX1.out 4).trans rfl; clear hb_))
  have HXF := Aside0.mk (show w6.heap[w.heap.size]? = some (.cells (.int .i64 on :: nums .i64 a).toArray 63 (0, 0)) from by rw [← HV.out]; exact HX6.out)
  clear x0 x1 x2 x3 x4
  try clear HX1 HX2 HX3 HX4 HX5 HX6 HB1 HB2 HB3 HB4 HB5 HPA HRC HCK HRN HUN HBB HBX
  go_loopg [4, 12, 13, 63, 64, 65, 66, 67, 68, 69, 70, 71, 72, 73, 74, 75, 76, 77, 78, 79, 80, 81, 82, 83, 84, 85, 86, 87, 88, 89] 4 (fun kq v4 v12 v13 v63 v64 v65 v66 v67 v68 v69 v70 v71 v72 v73 v74 v75 v76 v77 v78 v79 v80 v81 v82 v83 v84 v85 v86 v87 v88 v89 wx => ∃ j : Nat, v12 = .int .i64 (j : Int) ∧ v4 = .bool false ∧ Aside0 (kq + j = 4) ∧ Aside0 (wx.heap[w.heap.size]? = some (.cells (.int .i64 on :: nums .i64 a).toArray 63 (0, 0))) ∧ Aside0 (Below w.heap.size w wx) ∧ Aside0 (ReadsInt wx .i16 A2 4 PL))
  case atStart => exact ⟨0, rfl, rfl, ⟨rfl⟩, HXF, HB6, HL6⟩
  case round =>
    clear HXF HB6 HL6 HL2 HL3 HL4 HL5 
    obtain ⟨j, rfl, rfl, HG, HX, HB, HL⟩ := hrel
    by_cases hj : j < 4
    · rcases HPP.out with ⟨ho, HPP⟩ | ⟨ho, HPP⟩
      · replace HPP := Aside0.mk HPP
        have hj0 : (0 : Int) ≤ j := by omega
        have hj4 : (j : Int) < 4 := by omega
        obtain ⟨adl, eA, hcl⟩ := HL.out.2.2 (by omega)
        subst eA
        have hcj := hcl j hj
        have hd := (show wr.cell? ⟨w.heap.size, 1 + j, none⟩ = some (.int .i64 (a.getD j 0)) from by rw [blk_cell HX.out, Nat.add_comm]; exact cons_at (by rw [HA.out]; exact hj))
        have hP := HPP.out j hj
        have hpw := HPW.out j hj
        generalize PL.getD j 0 = pv at hcj hP hpw
        generalize a.getD j 0 = ix at hd hP
        have HP := Aside0.mk hP
        have hpw2 : IntKind.i64.wrap pv = pv := by rw [i64_w]; have := hpw.1; have := hpw.2; unfold wrap64; omega
        have hpw3 : wrap64 pv = pv := by have := hpw.1; have := hpw.2; unfold wrap64; omega
        have hwj : IntKind.i64.wrap ((j : Int) + 1) = ((j + 1 : Nat) : Int) := by rw [i64_w]; unfold wrap64; omega
        have x0 : wr.cell? ⟨w.heap.size, 0, none⟩ = some (.int .i64 on) := by rw [blk_cell HX.out]; rfl
        have hne0 : (pv != pv) = false := by simp
        obtain ⟨g0, rfl⟩ : ∃ g0, gk = g0 + 1 := ⟨gk - 1, by have := HG.out; omega⟩
        clear hcl hpw hj
        clear hP
        go_wp2_with (first | (go_at_call 45; refine (psalteryref17_Part.calls 1000 ix pv _ HP.out).mono ?_; rintro e w7 ⟨rfl, hb_⟩; have HB7 := Aside0.mk (below_step HB.out hb_); have HX7 := Aside0.mk (box_later HX.out hb_); have HL7 := Aside0.mk (reads_below HL.out hb_); have hcj7 := (hb_.cell (World.block_lt_of_cell? wr _ hcj)).trans hcj; clear hb_))
        go_roundg g0
        case measure => omega
        case rel => exact ⟨j + 1, by first | rfl | (congr 1; push_cast; rfl), rfl, ⟨by have := HG.out; omega⟩, HX7, HB7, HL7⟩
      · replace HPP := Aside0.mk HPP
        have hj0 : (0 : Int) ≤ j := by omega
        have hj4 : (j : Int) < 4 := by omega
        obtain ⟨adl, eA, hcl⟩ := HL.out.2.2 (by omega)
        subst eA
        have hcj := hcl j hj
        have hd := (show wr.cell? ⟨w.heap.size, 1 + j, none⟩ = some (.int .i64 (a.getD j 0)) from by rw [blk_cell HX.out, Nat.add_comm]; exact cons_at (by rw [HA.out]; exact hj))
        have hP := HPP.out j hj
        have hpw := HPW.out j hj
        generalize PL.getD j 0 = pv at hcj hP hpw
        generalize a.getD j 0 = ix at hd
        have HP := Aside0.mk hP
        have hpw2 : IntKind.i64.wrap pv = pv := by rw [i64_w]; have := hpw.1; have := hpw.2; unfold wrap64; omega
        have hpw3 : wrap64 pv = pv := by have := hpw.1; have := hpw.2; unfold wrap64; omega
        have hwj : IntKind.i64.wrap ((j : Int) + 1) = ((j + 1 : Nat) : Int) := by rw [i64_w]; unfold wrap64; omega
        have x0 : wr.cell? ⟨w.heap.size, 0, none⟩ = some (.int .i64 on) := by rw [blk_cell HX.out]; rfl
        have hne0 : (pv != pv) = false := by simp
        obtain ⟨g0, rfl⟩ : ∃ g0, gk = g0 + 1 := ⟨gk - 1, by have := HG.out; omega⟩
        clear hcl hpw hj
        have hP0 : pv = 0 := hP.symm
        rw [hP0] at hcj
        clear hP hP0 hpw2 hpw3 hne0
        go_wp2
        go_roundg g0
        case measure => omega
        case rel => exact ⟨j + 1, by first | rfl | (congr 1; push_cast; rfl), rfl, ⟨by have := HG.out; omega⟩, HX, HB, HL⟩
    · obtain rfl : j = 4 := by have := HG.out; omega
      clear hj
      go_wp2
      exact bodyPost_ret (v := .bool true) (by simp [results, Try.results12, go_sem]) rfl ⟨rfl, HB.out⟩
set_option maxRecDepth 100000 in
theorem law_Runs.huge (A : Option Addr) (n c : Nat) (on : Int) (a : List Int) (w : World) (ha : a.length = 4) (hl : 300 < n) :
    Calls Try.prog 12 #[.slice A n c, filtV on a] w fun e w' => e = .returned (.bool true) ∧ Below w.heap.size w w' := by
  have q0 : (300 : Int) < (n : Int) := by omega
  obtain ⟨a0, a1, a2, a3, rfl⟩ := four ha
  have HBB := Aside0.mk (below_alloc (Below.refl w.heap.size w) (.cells #[.int .i64 on, .int .i64 a0, .int .i64 a1, .int .i64 a2, .int .i64 a3] 63))
  simp only [filtV_eq]
  clear ha hl
  go_enter Try.func12, Try.ntmps12
  go_wp2_with (first | (go_at_call 29; refine (law17_alive.calls _).mono ?_; rintro e w1 ⟨rfl, hb_⟩; have HB1 := Aside0.mk (below_step HBB.out hb_); clear hb_))
  exact bodyPost_ret (v := .bool true) (by simp [results, Try.results12, go_sem]) rfl ⟨rfl, HB1.out⟩
theorem law_Runs.calls (A : Option Addr) (c : Nat) (x : List Int) (on : Int) (a : List Int) (w : World) (hr : ReadsInt w .i32 A x.length x) (hc : x.length ≤ c) (hx : ∀ i, In32 (x.getD i 0)) (ha : a.length = 4) :
    Calls Try.prog 12 #[.slice A x.length c, filtV on a] w fun e w' => e = .returned (.bool true) ∧ Below w.heap.size w w' := by
  by_cases h3 : 300 < x.length
  · exact law_Runs.huge A x.length c on a w ha h3
  · by_cases hl : 120 < x.length
    · by_cases hk : okFilt on a
      · exact law_Runs.lok A c x on a w hr hc hx ha (by omega) hl hk
      · exact law_Runs.lbad A c x on a w hr hc hx ha (by omega) hl hk
    · by_cases hk : okFilt on a
      · rcases hk.1 with rfl | rfl
        · exact law_Runs.off A c x a w hr hc hx ha (by omega) hl hk
        · exact law_Runs.on A c x a w hr hc hx ha (by omega) hl hk
      · exact law_Runs.bad A c x on a w hr hc hx ha (by omega) hl hk
end Go.Proofs.Ytblehkoonajofaa.PTns
