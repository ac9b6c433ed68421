/- Tns: the parts, and the reference's Check. -/
import Derived.Test.YtblehkoonajofaaTnsRun
import Derived.Test.YtblehkoonajofaaFixBaseTns
namespace Go.Proofs.Ytblehkoonajofaa.PTns
open Go.RowKit Go.Proofs.YtblehkoonajofaaW.PrintWords Go.Proofs.YtblehkoonajofaaW.PrintLast Go.Proofs.YtblehkoonajofaaW.PrintMore Go.Proofs.Ytblehkoonajofaa.RowAt
attribute [local go_sem] max2_int min2_int max_two min_two max_three min_three max_four min_four   -- for this text's walks alone
set_option linter.unusedVariables false
set_option linter.unusedSimpArgs false
theorem lat_reads {w : World} {p : Nat} {K S : List Int} (hK : K.length = 4) (h : w.heap[p]? = some (.cells (latC K S) 130 (0, 0))) : ReadsInt w .i16 (some ⟨p, 0, none⟩) 4 K :=
  ⟨hK, by decide, fun _ => ⟨_, rfl, fun j hj => by rw [add_plain]; exact lat_k h (by omega)⟩⟩
set_option maxRecDepth 100000 in
theorem tns_Parts.bad (on : Int) (a : List Int) (w : World) (ha : a.length = 4) (hk : ¬ okFilt on a) : Calls Try.prog 43 #[filtV on a] w fun e w' => e = .returned (.tuple #[.slice none 0 0, .int .i64 1]) ∧ Below w.heap.size w w' := by
  have HCH := Aside0.mk (fun w_ => tns_Check.calls on a ha 1 ⟨by rw [if_neg hk]⟩ w_)
  obtain ⟨a0, a1, a2, a3, rfl⟩ := four ha
  clear ha hk
  have HBB := Aside0.mk (below_alloc (Below.refl w.heap.size w) (.cells #[.int .i64 on, .int .i64 a0, .int .i64 a1, .int .i64 a2, .int .i64 a3] 60))
  have HBX := Aside0.mk (blk_new w (.cells #[.int .i64 on, .int .i64 a0, .int .i64 a1, .int .i64 a2, .int .i64 a3] 60))
  simp only [filtV_eq] at HCH ⊢
  go_enter Try.func43, Try.ntmps43
  go_wp2_with (first | (go_at_call 32; refine (HCH.out _).mono ?_; rintro e w2 ⟨rfl, hb_⟩; have HB2 := Aside0.mk (below_step HBB.out hb_); have HX2 := Aside0.mk (box_later HBX.out hb_); have x0 := (blk_cell HX2.out 0).trans rfl; have x1 := (blk_cell HX2.out 1).trans rfl; have x2 := (blk_cell HX2.out 2).trans rfl; have x3 := (blk_cell HX2.out 3).trans rfl; have x4 := (blk_cell HX2.out 4).trans rfl; clear hb_))
  exact bodyPost_ret (v := .tuple #[.slice none 0 0, .int .i64 1]) (by simp [results, Try.results43, go_sem]) rfl ⟨rfl, HB2.out⟩
/-- The parts that a filter has. -/
def partF (on : Int) (a : List Int) : List Int := if on = 0 then z4 else partsL a
set_option maxRecDepth 100000 in
theorem tns_Parts.off (a : List Int) (w : World) (ha : a.length = 4) (hk : okFilt 0 a) : Calls Try.prog 43 #[filtV 0 a] w fun e w' => ∃ v, e = .returned (.tuple #[v, .int .i64 0]) ∧ w'.ownsRow w.heap.size 33 1 v 4 (nums .i16 z4) ∧ Below w.heap.size w w' := by
  have HCH := Aside0.mk (fun w_ => tns_Check.calls 0 a ha 0 ⟨by rw [if_pos hk]⟩ w_)
  have hmo : ∀ W : World, (Instr.makeSlice 27 (.int .i64 4) (.int .i64 4)).run Try.prog W = .ok (.slice (some ⟨W.heap.size, 0, none⟩) 4 4) (W.alloc (.cells (madeCells #[.int .i16 0] 4) 33)) := print_make 27 33 .i16 2 Try.underlying27 info_i16 (by decide) 4 (by omega)
  obtain ⟨a0, a1, a2, a3, rfl⟩ := four ha
  clear ha hk
  have HBB := Aside0.mk (below_alloc (Below.refl w.heap.size w) (.cells #[.int .i64 0, .int .i64 a0, .int .i64 a1, .int .i64 a2, .int .i64 a3] 60))
  have HBX := Aside0.mk (blk_new w (.cells #[.int .i64 0, .int .i64 a0, .int .i64 a1, .int .i64 a2, .int .i64 a3] 60))
  simp only [filtV_eq] at HCH ⊢
  go_enter Try.func43, Try.ntmps43
  go_wp2_with (first | (go_at_call 32; refine (HCH.out _).mono ?_; rintro e w2 ⟨rfl, hb_⟩; have HB2 := Aside0.mk (below_step HBB.out hb_); have HX2 := Aside0.mk (box_later HBX.out hb_); have x0 := (blk_cell HX2.out 0).trans rfl; have x1 := (blk_cell HX2.out 1).trans rfl; have x2 := (blk_cell HX2.out 2).trans rfl; have x3 := (blk_cell HX2.out 3).trans rfl; have x4 := (blk_cell HX2.out 4).trans rfl; clear hb_))
  exact bodyPost_ret (v := .tuple #[.slice (some ⟨w2.heap.size, 0, none⟩) 4 4, .int .i64 0]) (by simp [results, Try.results43, go_sem]) rfl ⟨_, rfl, own_made w2 w.heap.size 33 .i16 4 (below_size HB2.out) (by decide), below_alloc HB2.out _⟩
set_option maxRecDepth 100000 in
theorem tns_Parts.on (a : List Int) (w : World) (ha : a.length = 4) (hk : okFilt 1 a) : Calls Try.prog 43 #[filtV 1 a] w fun e w' => ∃ v, e = .returned (.tuple #[v, .int .i64 0]) ∧ w'.ownsRow w.heap.size 33 1 v 4 (nums .i16 (partsL a)) ∧ Below w.heap.size w w' := by
  have hk16 : ∀ j, j < 4 → 0 ≤ a.getD j 0 ∧ a.getD j 0 ≤ 16 := fun j hj => by have := hk.2 j hj; omega
  have HCH := Aside0.mk (fun w_ => tns_Check.calls 1 a ha 0 ⟨by rw [if_pos hk]⟩ w_)
  have HOF := Aside0.mk (fun w_ => tns_of.calls 1 a ha hk16 w_)
  have HPL := Aside0.mk (partsL_in ha hk16).1
  generalize partsL a = K at HOF HPL ⊢
  obtain ⟨a0, a1, a2, a3, rfl⟩ := four ha
  clear ha hk hk16
  have HBB := Aside0.mk (below_alloc (Below.refl w.heap.size w) (.cells #[.int .i64 1, .int .i64 a0, .int .i64 a1, .int .i64 a2, .int .i64 a3] 60))
  have HBX := Aside0.mk (blk_new w (.cells #[.int .i64 1, .int .i64 a0, .int .i64 a1, .int .i64 a2, .int .i64 a3] 60))
  simp only [filtV_eq] at HCH HOF ⊢
  go_enter Try.func43, Try.ntmps43
  go_wp2_with (first | (go_at_call 32; refine (HCH.out _).mono ?_; rintro e w2 ⟨rfl, hb_⟩; have HB2 := Aside0.mk (below_step HBB.out hb_); have HX2 := Aside0.mk (box_later HBX.out hb_); have x0 := (blk_cell HX2.out 0).trans rfl; have x1 := (blk_cell HX2.out 1).trans rfl; have x2 := (blk_cell HX2.out 2).trans rfl; have x3 := (blk_cell HX2.out 3).trans rfl; have x4 := (blk_cell HX2.out 4).trans rfl; clear hb_) | (go_at_call 78; refine (HOF.out _).mono ?_; rintro e w3 ⟨p, rfl, hp_, hl_, hb_⟩; have HB3 := Aside0.mk (below_step HB2.out hb_); have HL3 := Aside0.mk hl_; clear hb_ hp_ hl_) | (go_at_call 79; refine (clone_i16.calls (some ⟨p, 0, none⟩) 4 _ K _ (lat_reads HPL.out HL3.out) (by decide)).mono ?_; rintro e w4 ⟨v4, rfl, g1, hb_⟩; have HB4 := Aside0.mk (below_step HB3.out hb_); have HO4 := Aside0.mk (own_lower g1 (below_size HB3.out)); rw [HPL.out] at HO4; clear g1 hb_))
  exact bodyPost_ret (v := .tuple #[v4, .int .i64 0]) (by simp [results, Try.results43, go_sem]) rfl ⟨_, rfl, HO4.out, HB4.out⟩
theorem tns_Parts.any (on : Int) (a : List Int) (w : World) (ha : a.length = 4) (hk : okFilt on a) : Calls Try.prog 43 #[filtV on a] w fun e w' => ∃ v, e = .returned (.tuple #[v, .int .i64 0]) ∧ w'.ownsRow w.heap.size 33 1 v 4 (nums .i16 (partF on a)) ∧ Below w.heap.size w w' := by
  rcases hk.1 with rfl | rfl
  · exact tns_Parts.off a w ha hk
  · exact tns_Parts.on a w ha hk
theorem rpart_of {i : Int} (h0 : 0 ≤ i) (h1 : i ≤ 16) : psalteryref17_Part.f 1000 i = some (partV i) := by
  have h : ∀ k : Fin 17, psalteryref17_Part.f 1000 (k.val : Int) = some (partV (k.val : Int)) := by decide +kernel
  have h2 := h ⟨i.toNat, by omega⟩
  rwa [show ((i.toNat : Nat) : Int) = i by omega] at h2
/-- What the reference asks of an index. -/
def good (on x : Int) : Prop := (0 ≤ x ∧ x ≤ 16) ∧ (on = 0 → x = 0)
theorem ok_good {on : Int} {a : List Int} (h : okFilt on a) (j : Nat) (hj : j < 4) : good on (a.getD j 0) := by
  have h1 := h.2 j hj
  rcases h.1 with rfl | rfl
  · exact ⟨by omega, fun _ => by omega⟩
  · exact ⟨by omega, fun h => by omega⟩
theorem good_ok {on : Int} {a : List Int} (h : on = 0 ∨ on = 1) (hg : ∀ j, j < 4 → good on (a.getD j 0)) : okFilt on a := by
  refine ⟨h, fun j hj => ?_⟩
  have h1 := hg j hj
  rcases h with rfl | rfl
  · have := h1.2 rfl; omega
  · have := h1.1; omega
theorem good_next {on : Int} {a : List Int} {i : Nat} (h : ∀ j, j < i → good on (a.getD j 0)) (hg : good on (a.getD i 0)) : ∀ j, j < i + 1 → good on (a.getD j 0) := fun j hj => by
  by_cases e : j = i
  · subst e; exact hg
  · exact h j (by omega)
def chkP (on : Int) (a : List Int) (w : World) (e : Ending) (w' : World) : Prop := ∃ b, e = .returned (.bool b) ∧ (b = true ↔ okFilt on a) ∧ Below w.heap.size w w'
set_option maxRecDepth 100000 in
theorem ref17_Check.calls (on : Int) (a : List Int) (ha : a.length = 4) (w : World) : Calls Try.prog 44 #[filtV on a] w (chkP on a w) := by
  have HA := Aside0.mk ha
  obtain ⟨a', ha'⟩ : ∃ a', a' = a := ⟨_, rfl⟩
  have HAA := Aside0.mk ha'
  obtain ⟨a0, a1, a2, a3, h4⟩ := four ha
  have hV : filtV on a = .agg #[.int .i64 on, .int .i64 a0, .int .i64 a1, .int .i64 a2, .int .i64 a3] := by rw [h4]; rfl
  have HBB := Aside0.mk (below_alloc (Below.refl w.heap.size w) (.cells (.int .i64 on :: nums .i64 a).toArray 63))
  have HBX := Aside0.mk (blk_new w (.cells (.int .i64 on :: nums .i64 a).toArray 63))
  have HV := Aside0.mk (show (#[.int .i64 on, .int .i64 a0, .int .i64 a1, .int .i64 a2, .int .i64 a3] : Array Value) = (.int .i64 on :: nums .i64 a).toArray from by rw [h4]; rfl)
  rw [hV]
  clear ha ha' h4 hV
  go_enter Try.func44, Try.ntmps44
  go_wp2
  rw [HV.out]
  generalize w.alloc (.cells (.int .i64 on :: nums .i64 a).toArray 63) = w2 at HBB HBX ⊢
  have hon : w2.cell? ⟨w.heap.size, 0, none⟩ = some (.int .i64 on) := by rw [blk_cell HBX.out]; rfl
  go_loopg [2, 3, 4, 5, 6, 7, 8, 9, 10, 11, 12, 13, 14, 15, 16, 17, 18, 19, 20, 21, 22, 23, 24, 25, 26, 27, 28, 29, 30, 31] 4 (fun kq v2 v3 v4 v5 v6 v7 v8 v9 v10 v11 v12 v13 v14 v15 v16 v17 v18 v19 v20 v21 v22 v23 v24 v25 v26 v27 v28 v29 v30 v31 wx => ∃ i : Nat, v3 = .int .i64 (i : Int) ∧ v2 = .bool false ∧ Aside0 (kq + i = 4) ∧ Aside0 (∀ j, j < i → good on (a.getD j 0)) ∧ Aside0 (wx = w2))
  case atStart => exact ⟨0, rfl, rfl, ⟨rfl⟩, ⟨fun j hj => absurd hj (by omega)⟩, ⟨rfl⟩⟩
  case round =>
    obtain ⟨i, rfl, rfl, HG, HU, HE⟩ := hrel
    obtain rfl := HE.out
    clear HE
    by_cases hi : i < 4
    · have hi0 : (0 : Int) ≤ i := by omega
      have hi4 : (i : Int) < 4 := by omega
      have hc : wr.cell? ⟨w.heap.size, 1 + i, none⟩ = some (.int .i64 (a.getD i 0)) := by rw [blk_cell HBX.out, Nat.add_comm]; exact cons_at (by rw [HA.out]; exact hi)
      obtain ⟨x, hx⟩ : ∃ x, x = a.getD i 0 := ⟨_, rfl⟩
      rw [← hx] at hc
      have HXE := Aside0.mk hx
      have HII := Aside0.mk hi
      have hwi : IntKind.i64.wrap ((i : Int) + 1) = ((i + 1 : Nat) : Int) := by rw [i64_w]; unfold wrap64; omega
      obtain ⟨g0, rfl⟩ : ∃ g0, gk = g0 + 1 := ⟨gk - 1, by have := HG.out; omega⟩
      clear hx hi
      by_cases h1 : x < 0
      · have hbad : ¬ good on (a.getD i 0) := by rw [← HXE.out]; exact fun h => by have := h.1; omega
        go_wp2
        exact bodyPost_ret (v := .bool false) (by simp [results, Try.results44, go_sem]) rfl ⟨false, rfl, by simp; intro h; exact hbad (ok_good h i HII.out), HBB.out⟩
      · by_cases h2 : x > 16
        · have hbad : ¬ good on (a.getD i 0) := by rw [← HXE.out]; exact fun h => by have := h.1; omega
          go_wp2
          exact bodyPost_ret (v := .bool false) (by simp [results, Try.results44, go_sem]) rfl ⟨false, rfl, by simp; intro h; exact hbad (ok_good h i HII.out), HBB.out⟩
        · by_cases h3 : on = 0
          · have h3b : (on == 0) = true := by simp [h3]
            by_cases h4 : x = 0
            · have h4b : (x != 0) = false := by simp [h4]
              have hgood : good on x := ⟨by omega, fun _ => h4⟩
              have HGD := Aside0.mk hgood
              clear h3 h4 hgood
              go_wp2
              have HU2 := Aside0.mk (good_next HU.out (by rw [← HXE.out]; exact HGD.out))
              go_roundg g0
              case measure => omega
              case rel => exact ⟨i + 1, by first | rfl | (congr 1; push_cast; rfl), rfl, ⟨by have := HG.out; omega⟩, HU2, ⟨rfl⟩⟩
            · have h4b : (x != 0) = true := by simp [h4]
              have hbad : ¬ good on (a.getD i 0) := by rw [← HXE.out]; exact fun h => h4 (h.2 h3)
              clear h3 h4
              go_wp2
              exact bodyPost_ret (v := .bool false) (by simp [results, Try.results44, go_sem]) rfl ⟨false, rfl, by simp; intro h; exact hbad (ok_good h i HII.out), HBB.out⟩
          · have h3b : (on == 0) = false := by simp [h3]
            have hgood : good on x := ⟨by omega, fun h => absurd h h3⟩
            have HGD := Aside0.mk hgood
            clear h3 hgood
            go_wp2
            have HU2 := Aside0.mk (good_next HU.out (by rw [← HXE.out]; exact HGD.out))
            go_roundg g0
            case measure => omega
            case rel => exact ⟨i + 1, by first | rfl | (congr 1; push_cast; rfl), rfl, ⟨by have := HG.out; omega⟩, HU2, ⟨rfl⟩⟩
    · obtain rfl : i = 4 := by have := HG.out; omega
      clear hi
      by_cases h3 : on = 0 ∨ on = 1
      · have HOK := Aside0.mk (good_ok h3 HU.out)
        have hb : ∃ b, (on == 0) = b ∧ (b = false → (on == 1) = true) := ⟨_, rfl, fun h => by rcases h3 with rfl | rfl; exact absurd h (by decide); decide⟩
        obtain ⟨b, hb0, hb1⟩ := hb
        clear h3
        cases b
        all_goals
          try have hb2 := hb1 rfl
          clear hb1
          go_wp2
          exact bodyPost_ret (v := .bool true) (by simp [results, Try.results44, go_sem]) rfl ⟨true, rfl, by simp; exact HOK.out, HBB.out⟩
      · have h3a : (on == 0) = false := by simp; exact fun h => h3 (.inl h)
        have h3b : (on == 1) = false := by simp; exact fun h => h3 (.inr h)
        have HNO := Aside0.mk (show ¬ okFilt on a from fun h => h3 h.1)
        clear h3
        go_wp2
        exact bodyPost_ret (v := .bool false) (by simp [results, Try.results44, go_sem]) rfl ⟨false, rfl, by simp; exact HNO.out, HBB.out⟩
end Go.Proofs.Ytblehkoonajofaa.PTns
