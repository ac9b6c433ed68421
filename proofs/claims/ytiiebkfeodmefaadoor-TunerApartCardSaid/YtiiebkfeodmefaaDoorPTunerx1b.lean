/- Contracts of the functions that the law Tuner reaches: each Go function as a Lean function, and that the Go text comes to it. Written by programs (wip/tools), out of the program's own loaded form. -/
import Derived.Test.YtiiebkfeodmefaaDoorPTunerx1
import Derived.Test.YtiiebkfeodmefaaDoorTunerShelf
import Derived.Lib.AppendIntMem
import Derived.Deep.RegionHeld3
namespace Go.Proofs.YtiiebkfeodmefaaDoor.PTuner
open Go.RowKit Go.Proofs.YtiiebkfeodmefaaDoorW.PrintWords Go.Proofs.YtiiebkfeodmefaaDoorW.PrintLast Go.Proofs.YtiiebkfeodmefaaDoorW.PrintMore
attribute [local go_sem] max2_int min2_int max_two min_two max_three min_three max_four min_four   -- for this text's walks alone
set_option linter.unusedVariables false
set_option linter.unusedSimpArgs false

def Tab (w : World) : Prop := Lib.TabIs Tryd.prog w "internal/strconv.uint64pow10" .u64 Lib.pow10Tab
theorem tab_below {w w' : World} (h : Tab w) (hb : Below w.heap.size w w') : Tab w' := by
  unfold Tab Lib.TabIs World.var? at h ⊢
  rcases hh : Tryd.prog.globalNamed "internal/strconv.uint64pow10" with _ | g
  · rw [hh] at h; cases h
  · rw [hh] at h
    simp only [Option.bind_some] at h ⊢
    have hlt : g < w.heap.size := by
      rcases Nat.lt_or_ge g w.heap.size with h' | h'
      · exact h'
      · rw [Array.getElem?_eq_none h'] at h; cases h
    rw [hb.block g hlt]
    exact h
def nameL : List (List UInt8) := [[67], [67, 35], [68], [68, 35], [69], [70], [70, 35], [71], [71, 35], [65], [65, 35], [66]]
def nameS (n : Nat) : ByteArray := (⟨(nameL.getD (n % 12) []).toArray⟩ : ByteArray) ++ ⟨(Lib.itoa ((n / 12 : Nat) - 1)).toArray⟩
def nameA : Array Value := #[.string ⟨#[67]⟩, .string ⟨#[67, 35]⟩, .string ⟨#[68]⟩, .string ⟨#[68, 35]⟩, .string ⟨#[69]⟩, .string ⟨#[70]⟩, .string ⟨#[70, 35]⟩, .string ⟨#[71]⟩, .string ⟨#[71, 35]⟩, .string ⟨#[65]⟩, .string ⟨#[65, 35]⟩, .string ⟨#[66]⟩]
theorem nameA_at (k : Nat) (hk : k < 12) : nameA[k]? = some (.string ⟨(nameL.getD k []).toArray⟩) := by
  have hc : k = 0 ∨ k = 1 ∨ k = 2 ∨ k = 3 ∨ k = 4 ∨ k = 5 ∨ k = 6 ∨ k = 7 ∨ k = 8 ∨ k = 9 ∨ k = 10 ∨ k = 11 := by omega
  rcases hc with rfl | rfl | rfl | rfl | rfl | rfl | rfl | rfl | rfl | rfl | rfl | rfl <;> rfl
theorem nameL_len (k : Nat) (hk : k < 12) : (nameL.getD k []).length ≤ 2 := by
  have hc : k = 0 ∨ k = 1 ∨ k = 2 ∨ k = 3 ∨ k = 4 ∨ k = 5 ∨ k = 6 ∨ k = 7 ∨ k = 8 ∨ k = 9 ∨ k = 10 ∨ k = 11 := by omega
  rcases hc with rfl | rfl | rfl | rfl | rfl | rfl | rfl | rfl | rfl | rfl | rfl | rfl <;> decide
theorem itoa_len (q : Nat) (hq : q ≤ 10) : (Lib.itoa ((q : Nat) - 1)).length ≤ 3 := by
  have h : ∀ q : Fin 11, (Lib.itoa ((q.val : Nat) - 1)).length ≤ 3 := by decide +kernel
  exact h ⟨q, by omega⟩
def tuner_Name.f (a0 : Int) : Option (ByteArray × Int) := if 0 ≤ a0 ∧ a0 ≤ 127 then some (nameS a0.toNat, 0) else some ((⟨#[]⟩ : ByteArray), 1)
set_option maxHeartbeats 8000000 in
set_option maxRecDepth 100000 in
theorem tuner_Name.calls (a0 : Int) (r1 : ByteArray) (r2 : Int) (w : World) (ht : Tab w) (h : tuner_Name.f a0 = some (r1, r2)) :
    Calls Tryd.prog 10 #[.int .i64 a0] w fun e w' => e = .returned (.tuple #[.string r1, .int .i64 r2]) ∧ Below w.heap.size w w' := by
  unfold tuner_Name.f at h
  by_cases hn : 0 ≤ a0 ∧ a0 ≤ 127
  · rw [if_pos hn] at h
    obtain ⟨rfl, rfl⟩ : nameS a0.toNat = r1 ∧ (0 : Int) = r2 := by simpa using h
    obtain ⟨n, rfl⟩ : ∃ n : Nat, a0 = n := ⟨a0.toNat, by omega⟩
    have hNF : tuner_note.f (n : Int) = some true := by unfold tuner_note.f; rw [if_pos (by omega)]; simp; omega
    have HNF := Aside0.mk hNF
    obtain ⟨k, hk⟩ : ∃ k, k = n % 12 := ⟨_, rfl⟩
    obtain ⟨q, hq⟩ : ∃ q, q = n / 12 := ⟨_, rfl⟩
    have HR := Aside0.mk (show nameS ((n : Int)).toNat = (⟨(nameL.getD k []).toArray⟩ : ByteArray) ++ ⟨(Lib.itoa ((q : Nat) - 1)).toArray⟩ from by unfold nameS; rw [hk, hq, Int.toNat_natCast])
    have hk12 : k < 12 := by omega
    have hq11 : q ≤ 10 := by omega
    have hk0 : (0 : Int) ≤ (k : Int) := by omega
    have hk1 : (k : Int) < 12 := by omega
    have hrem : Int.tmod (n : Int) 12 = (k : Int) := by rw [Int.tmod_eq_emod_of_nonneg (by omega)]; omega
    have hquo : Int.tdiv (n : Int) 12 = (q : Int) := by rw [Int.tdiv_eq_ediv_of_nonneg (by omega)]; omega
    have hqw : IntKind.i64.wrap (q : Int) = (q : Int) := by rw [i64_w]; unfold wrap64; omega
    have hq1 : IntKind.i64.wrap ((q : Int) - 1) = (q : Int) - 1 := by rw [i64_w]; unfold wrap64; omega
    have HA := Aside0.mk (nameA_at k hk12)
    have HIT := Aside0.mk (fun (W : World) (g : Tab W) => Tryd.strconv_Itoa ((q : Int) - 1) (by omega) (by omega) W g)
    have HT := Aside0.mk ht
    clear h ht hn hk hq hNF
    have hlen : (⟨(nameL.getD k []).toArray⟩ : ByteArray).size + (⟨(Lib.itoa ((q : Nat) - 1)).toArray⟩ : ByteArray).size ≤ 9223372036854775807 := by
      have h1 := nameL_len k hk12
      have h2 := itoa_len q hq11
      show (nameL.getD k []).toArray.size + (Lib.itoa ((q : Nat) - 1)).toArray.size ≤ _
      rw [List.size_toArray, List.size_toArray]; omega
    generalize (⟨(nameL.getD k []).toArray⟩ : ByteArray) = s at HR HA hlen
    generalize (⟨(Lib.itoa ((q : Nat) - 1)).toArray⟩ : ByteArray) = u at HR HIT hlen
    generalize nameS ((n : Int)).toNat = r at HR ⊢
    go_enter Tryd.func10, Tryd.ntmps10
    go_wp2_with (first | (go_at_call 32; refine (tuner_note.calls (n : Int) true _ HNF.out).mono ?_; rintro e w1 ⟨rfl, hb_⟩; obtain ⟨q8, hq8⟩ := hb_; have HB1 := Aside0.mk (show Below w.heap.size w w1 from (by rw [hq8]; exact pw_below_drewN (Below.refl _ _) _)); clear hq8))
    change Code.wp _ _ _ _ (w1.alloc (.cells nameA 73))
    have HK2 := Aside0.mk (blk_new w1 (.cells nameA 73))
    have HB2 := Aside0.mk (below_alloc HB1.out (.cells nameA 73))
    generalize w1.alloc (.cells nameA 73) = w2 at HK2 HB2 ⊢
    have hc2 : w2.cell? ⟨w1.heap.size, k, none⟩ = some (.string s) := (blk_cell HK2.out k).trans HA.out
    generalize w1.heap.size = g at hc2 HK2 ⊢
    have hc2d : w2.drew.cell? ⟨g, k, none⟩ = some (.string s) := hc2
    have HB2d := Aside0.mk (below_drew HB2.out)
    go_region_with (first | (go_at_call 34; refine (HIT.out _ (tab_below HT.out HB2d.out)).mono ?_; rintro e w3 ⟨rfl, k_, os_, hg_⟩; have hb_ : Below w2.drew.heap.size w2.drew w3 := (by rw [hg_]; exact Lib.below_grow _ _ (Nat.le_refl _) _ _); have HB3 := Aside0.mk (below_step HB2d.out hb_); have hc3 := (hb_.cell (World.block_lt_of_cell? _ _ hc2d)).trans hc2d; clear hg_ hb_))
    all_goals
      go_wp2
      go_ret2
      exact ⟨by rw [HR.out]; rfl, HB3.out⟩
  · rw [if_neg hn] at h
    obtain ⟨rfl, rfl⟩ : (⟨#[]⟩ : ByteArray) = r1 ∧ (1 : Int) = r2 := by simpa using h
    have hNF : tuner_note.f a0 = some false := by
      unfold tuner_note.f
      by_cases h0 : a0 ≥ 0
      · rw [if_pos h0]; simp; omega
      · rw [if_neg h0]
    have HNF := Aside0.mk hNF
    clear h ht hn hNF
    go_enter Tryd.func10, Tryd.ntmps10
    go_wp2_with (first | (go_at_call 32; refine (tuner_note.calls a0 false _ HNF.out).mono ?_; rintro e w1 ⟨rfl, hb_⟩; obtain ⟨q8, hq8⟩ := hb_; have HB1 := Aside0.mk (show Below w.heap.size w w1 from (by rw [hq8]; exact pw_below_drewN (Below.refl _ _) _)); clear hq8))
    go_ret2
    exact ⟨rfl, HB1.out⟩
/-! ### psalterylaw37_alive: function 8 -/
def psalterylaw37_alive.f  : Option (Bool) := (tuner_Note.f 440).bind fun bt109 => ((tuner_Name.f 69).bind fun bt111 => ((tuner_Name.f 128).bind fun bt113 => (if bt109.1 = 69 then (if bt109.2 = 0 then (if bt111.1.toList = ([65, 52] : List UInt8) then (if bt111.2 = 0 then (some (bt113.2 == 1)) else (some false)) else (some false)) else (some false)) else (some false))))
set_option maxHeartbeats 8000000 in
set_option maxRecDepth 100000 in
theorem psalterylaw37_alive.calls  (r : Bool) (w : World) (ht : Tab w) (h : psalterylaw37_alive.f  = some r) :
    Calls Tryd.prog 8 #[] w fun e w' => e = .returned (.bool r) ∧ Below w.heap.size w w' := by
  have HT := Aside0.mk ht
  clear ht
  have HB := Aside0.mk (Below.refl w.heap.size w)
  have H : ((tuner_Note.f 440).bind fun bt109 => ((tuner_Name.f 69).bind fun bt111 => ((tuner_Name.f 128).bind fun bt113 => (if bt109.1 = 69 then (if bt109.2 = 0 then (if bt111.1.toList = ([65, 52] : List UInt8) then (if bt111.2 = 0 then (some (bt113.2 == 1)) else (some false)) else (some false)) else (some false)) else (some false))))) = some r := h
  clear h
  replace H := Option.bind_eq_some_iff.mp H
  obtain ⟨⟨t109, t110⟩, A10, H⟩ := H
  replace H : ((tuner_Name.f 69).bind fun bt111 => ((tuner_Name.f 128).bind fun bt113 => (if t109 = 69 then (if t110 = 0 then (if bt111.1.toList = ([65, 52] : List UInt8) then (if bt111.2 = 0 then (some (bt113.2 == 1)) else (some false)) else (some false)) else (some false)) else (some false)))) = some r := H
  have A1 := Aside0.mk A10
  clear A10
  replace H := Option.bind_eq_some_iff.mp H
  obtain ⟨⟨t111, t112⟩, A20, H⟩ := H
  replace H : ((tuner_Name.f 128).bind fun bt113 => (if t109 = 69 then (if t110 = 0 then (if t111.toList = ([65, 52] : List UInt8) then (if t112 = 0 then (some (bt113.2 == 1)) else (some false)) else (some false)) else (some false)) else (some false))) = some r := H
  have A2 := Aside0.mk A20
  clear A20
  replace H := Option.bind_eq_some_iff.mp H
  obtain ⟨⟨t113, t114⟩, A30, H⟩ := H
  replace H : (if t109 = 69 then (if t110 = 0 then (if t111.toList = ([65, 52] : List UInt8) then (if t112 = 0 then (some (t114 == 1)) else (some false)) else (some false)) else (some false)) else (some false)) = some r := H
  have A3 := Aside0.mk A30
  clear A30
  by_cases c4 : t109 = 69
  · rw [if_pos c4] at H
    have c4b0 : (t109 == 69) = true := beq_iff_eq.mpr c4
    have c4b1 : (t109 != 69) = false := bne_eq_false_iff_eq.mpr c4
    clear c4
    by_cases c5 : t110 = 0
    · rw [if_pos c5] at H
      have c5b0 : (t110 == 0) = true := beq_iff_eq.mpr c5
      have c5b1 : (t110 != 0) = false := bne_eq_false_iff_eq.mpr c5
      clear c5
      by_cases c6 : t111.toList = ([65, 52] : List UInt8)
      · rw [if_pos c6] at H
        have c6b0 : (t111.toList == ([65, 52] : List UInt8)) = true := beq_iff_eq.mpr c6
        have c6b1 : (t111.toList != ([65, 52] : List UInt8)) = false := bne_eq_false_iff_eq.mpr c6
        clear c6
        by_cases c7 : t112 = 0
        · rw [if_pos c7] at H
          have c7b0 : (t112 == 0) = true := beq_iff_eq.mpr c7
          have c7b1 : (t112 != 0) = false := bne_eq_false_iff_eq.mpr c7
          clear c7
          obtain rfl := Option.some.inj H
          go_enter Tryd.func8, Tryd.ntmps8
          go_wp2_with (first | ((with_reducible refine gate_callee (f := 13) rfl ?_); refine goesL_ (some 8) rfl rfl Tryd.func13 (by kernel_rfl) rfl #[.int .u64 440] rfl (by (try simp only [List.map_toArray, List.map_cons, List.map_nil]); first | done | rfl | (simp only [List.length_drop, List.length_take]; rfl)) ?_; (with_reducible refine (tuner_Note.calls 440 t109 t110 _ A1.out).mono ?_); rintro e w8 ⟨rfl, hb⟩; refine ⟨_, rfl, ?_⟩; have n0_ := Aside0.mk (below_step (by repeat (first | (with_reducible first | exact HB.out | apply below_alloc | apply pw_below_drewN | apply below_drew1) | exact HB.out)) hb); clear HB; have HB := n0_; clear n0_; (try clear hb); (try clear hb2); (try clear hk); (try clear hi)) | ((with_reducible refine gate_callee (f := 10) rfl ?_); refine goesL_ (some 12) rfl rfl Tryd.func10 (by kernel_rfl) rfl #[.int .i64 69] rfl (by (try simp only [List.map_toArray, List.map_cons, List.map_nil]); first | done | rfl | (simp only [List.length_drop, List.length_take]; rfl)) ?_; (with_reducible refine (tuner_Name.calls 69 t111 t112 _ (tab_below HT.out (by repeat (first | (with_reducible first | exact HB.out | apply below_alloc | apply pw_below_drewN | apply below_drew1) | exact HB.out))) A2.out).mono ?_); rintro e w9 ⟨rfl, hb⟩; refine ⟨_, rfl, ?_⟩; have n0_ := Aside0.mk (below_step (by repeat (first | (with_reducible first | exact HB.out | apply below_alloc | apply pw_below_drewN | apply below_drew1) | exact HB.out)) hb); clear HB; have HB := n0_; clear n0_; (try clear hb); (try clear hb2); (try clear hk); (try clear hi)) | ((with_reducible refine gate_callee (f := 10) rfl ?_); refine goesL_ (some 16) rfl rfl Tryd.func10 (by kernel_rfl) rfl #[.int .i64 128] rfl (by (try simp only [List.map_toArray, List.map_cons, List.map_nil]); first | done | rfl | (simp only [List.length_drop, List.length_take]; rfl)) ?_; (with_reducible refine (tuner_Name.calls 128 t113 t114 _ (tab_below HT.out (by repeat (first | (with_reducible first | exact HB.out | apply below_alloc | apply pw_below_drewN | apply below_drew1) | exact HB.out))) A3.out).mono ?_); rintro e w10 ⟨rfl, hb⟩; refine ⟨_, rfl, ?_⟩; have n0_ := Aside0.mk (below_step (by repeat (first | (with_reducible first | exact HB.out | apply below_alloc | apply pw_below_drewN | apply below_drew1) | exact HB.out)) hb); clear HB; have HB := n0_; clear n0_; (try clear hb); (try clear hb2); (try clear hk); (try clear hi)))
          go_ret
          exact ⟨by first | rfl | (simp [errW_none, errW_some] <;> rfl) | (simp [*, errW_none, errW_some] <;> rfl), by repeat (first | (with_reducible first | exact HB.out | apply below_alloc | apply pw_below_drewN | apply below_drew1) | exact HB.out)⟩
        · rw [if_neg c7] at H
          have c7b0 : (t112 == 0) = false := beq_eq_false_iff_ne.mpr c7
          have c7b1 : (t112 != 0) = true := bne_iff_ne.mpr c7
          obtain rfl := Option.some.inj H
          go_enter Tryd.func8, Tryd.ntmps8
          go_wp2_with (first | ((with_reducible refine gate_callee (f := 13) rfl ?_); refine goesL_ (some 8) rfl rfl Tryd.func13 (by kernel_rfl) rfl #[.int .u64 440] rfl (by (try simp only [List.map_toArray, List.map_cons, List.map_nil]); first | done | rfl | (simp only [List.length_drop, List.length_take]; rfl)) ?_; (with_reducible refine (tuner_Note.calls 440 t109 t110 _ A1.out).mono ?_); rintro e w11 ⟨rfl, hb⟩; refine ⟨_, rfl, ?_⟩; have n0_ := Aside0.mk (below_step (by repeat (first | (with_reducible first | exact HB.out | apply below_alloc | apply pw_below_drewN | apply below_drew1) | exact HB.out)) hb); clear HB; have HB := n0_; clear n0_; (try clear hb); (try clear hb2); (try clear hk); (try clear hi)) | ((with_reducible refine gate_callee (f := 10) rfl ?_); refine goesL_ (some 12) rfl rfl Tryd.func10 (by kernel_rfl) rfl #[.int .i64 69] rfl (by (try simp only [List.map_toArray, List.map_cons, List.map_nil]); first | done | rfl | (simp only [List.length_drop, List.length_take]; rfl)) ?_; (with_reducible refine (tuner_Name.calls 69 t111 t112 _ (tab_below HT.out (by repeat (first | (with_reducible first | exact HB.out | apply below_alloc | apply pw_below_drewN | apply below_drew1) | exact HB.out))) A2.out).mono ?_); rintro e w12 ⟨rfl, hb⟩; refine ⟨_, rfl, ?_⟩; have n0_ := Aside0.mk (below_step (by repeat (first | (with_reducible first | exact HB.out | apply below_alloc | apply pw_below_drewN | apply below_drew1) | exact HB.out)) hb); clear HB; have HB := n0_; clear n0_; (try clear hb); (try clear hb2); (try clear hk); (try clear hi)) | ((with_reducible refine gate_callee (f := 10) rfl ?_); refine goesL_ (some 16) rfl rfl Tryd.func10 (by kernel_rfl) rfl #[.int .i64 128] rfl (by (try simp only [List.map_toArray, List.map_cons, List.map_nil]); first | done | rfl | (simp only [List.length_drop, List.length_take]; rfl)) ?_; (with_reducible refine (tuner_Name.calls 128 t113 t114 _ (tab_below HT.out (by repeat (first | (with_reducible first | exact HB.out | apply below_alloc | apply pw_below_drewN | apply below_drew1) | exact HB.out))) A3.out).mono ?_); rintro e w13 ⟨rfl, hb⟩; refine ⟨_, rfl, ?_⟩; have n0_ := Aside0.mk (below_step (by repeat (first | (with_reducible first | exact HB.out | apply below_alloc | apply pw_below_drewN | apply below_drew1) | exact HB.out)) hb); clear HB; have HB := n0_; clear n0_; (try clear hb); (try clear hb2); (try clear hk); (try clear hi)))
          go_ret
          exact ⟨by first | rfl | (simp [errW_none, errW_some] <;> rfl) | (simp [*, errW_none, errW_some] <;> rfl), by repeat (first | (with_reducible first | exact HB.out | apply below_alloc | apply pw_below_drewN | apply below_drew1) | exact HB.out)⟩
      · rw [if_neg c6] at H
        have c6b0 : (t111.toList == ([65, 52] : List UInt8)) = false := beq_eq_false_iff_ne.mpr c6
        have c6b1 : (t111.toList != ([65, 52] : List UInt8)) = true := bne_iff_ne.mpr c6
        obtain rfl := Option.some.inj H
        go_enter Tryd.func8, Tryd.ntmps8
        go_wp2_with (first | ((with_reducible refine gate_callee (f := 13) rfl ?_); refine goesL_ (some 8) rfl rfl Tryd.func13 (by kernel_rfl) rfl #[.int .u64 440] rfl (by (try simp only [List.map_toArray, List.map_cons, List.map_nil]); first | done | rfl | (simp only [List.length_drop, List.length_take]; rfl)) ?_; (with_reducible refine (tuner_Note.calls 440 t109 t110 _ A1.out).mono ?_); rintro e w14 ⟨rfl, hb⟩; refine ⟨_, rfl, ?_⟩; have n0_ := Aside0.mk (below_step (by repeat (first | (with_reducible first | exact HB.out | apply below_alloc | apply pw_below_drewN | apply below_drew1) | exact HB.out)) hb); clear HB; have HB := n0_; clear n0_; (try clear hb); (try clear hb2); (try clear hk); (try clear hi)) | ((with_reducible refine gate_callee (f := 10) rfl ?_); refine goesL_ (some 12) rfl rfl Tryd.func10 (by kernel_rfl) rfl #[.int .i64 69] rfl (by (try simp only [List.map_toArray, List.map_cons, List.map_nil]); first | done | rfl | (simp only [List.length_drop, List.length_take]; rfl)) ?_; (with_reducible refine (tuner_Name.calls 69 t111 t112 _ (tab_below HT.out (by repeat (first | (with_reducible first | exact HB.out | apply below_alloc | apply pw_below_drewN | apply below_drew1) | exact HB.out))) A2.out).mono ?_); rintro e w15 ⟨rfl, hb⟩; refine ⟨_, rfl, ?_⟩; have n0_ := Aside0.mk (below_step (by repeat (first | (with_reducible first | exact HB.out | apply below_alloc | apply pw_below_drewN | apply below_drew1) | exact HB.out)) hb); clear HB; have HB := n0_; clear n0_; (try clear hb); (try clear hb2); (try clear hk); (try clear hi)) | ((with_reducible refine gate_callee (f := 10) rfl ?_); refine goesL_ (some 16) rfl rfl Tryd.func10 (by kernel_rfl) rfl #[.int .i64 128] rfl (by (try simp only [List.map_toArray, List.map_cons, List.map_nil]); first | done | rfl | (simp only [List.length_drop, List.length_take]; rfl)) ?_; (with_reducible refine (tuner_Name.calls 128 t113 t114 _ (tab_below HT.out (by repeat (first | (with_reducible first | exact HB.out | apply below_alloc | apply pw_below_drewN | apply below_drew1) | exact HB.out))) A3.out).mono ?_); rintro e w16 ⟨rfl, hb⟩; refine ⟨_, rfl, ?_⟩; have n0_ := Aside0.mk (below_step (by repeat (first | (with_reducible first | exact HB.out | apply below_alloc | apply pw_below_drewN | apply below_drew1) | exact HB.out)) hb); clear HB; have HB := n0_; clear n0_; (try clear hb); (try clear hb2); (try clear hk); (try clear hi)))
        go_ret
        exact ⟨by first | rfl | (simp [errW_none, errW_some] <;> rfl) | (simp [*, errW_none, errW_some] <;> rfl), by repeat (first | (with_reducible first | exact HB.out | apply below_alloc | apply pw_below_drewN | apply below_drew1) | exact HB.out)⟩
    · rw [if_neg c5] at H
      have c5b0 : (t110 == 0) = false := beq_eq_false_iff_ne.mpr c5
      have c5b1 : (t110 != 0) = true := bne_iff_ne.mpr c5
      obtain rfl := Option.some.inj H
      go_enter Tryd.func8, Tryd.ntmps8
      go_wp2_with (first | ((with_reducible refine gate_callee (f := 13) rfl ?_); refine goesL_ (some 8) rfl rfl Tryd.func13 (by kernel_rfl) rfl #[.int .u64 440] rfl (by (try simp only [List.map_toArray, List.map_cons, List.map_nil]); first | done | rfl | (simp only [List.length_drop, List.length_take]; rfl)) ?_; (with_reducible refine (tuner_Note.calls 440 t109 t110 _ A1.out).mono ?_); rintro e w17 ⟨rfl, hb⟩; refine ⟨_, rfl, ?_⟩; have n0_ := Aside0.mk (below_step (by repeat (first | (with_reducible first | exact HB.out | apply below_alloc | apply pw_below_drewN | apply below_drew1) | exact HB.out)) hb); clear HB; have HB := n0_; clear n0_; (try clear hb); (try clear hb2); (try clear hk); (try clear hi)) | ((with_reducible refine gate_callee (f := 10) rfl ?_); refine goesL_ (some 12) rfl rfl Tryd.func10 (by kernel_rfl) rfl #[.int .i64 69] rfl (by (try simp only [List.map_toArray, List.map_cons, List.map_nil]); first | done | rfl | (simp only [List.length_drop, List.length_take]; rfl)) ?_; (with_reducible refine (tuner_Name.calls 69 t111 t112 _ (tab_below HT.out (by repeat (first | (with_reducible first | exact HB.out | apply below_alloc | apply pw_below_drewN | apply below_drew1) | exact HB.out))) A2.out).mono ?_); rintro e w18 ⟨rfl, hb⟩; refine ⟨_, rfl, ?_⟩; have n0_ := Aside0.mk (below_step (by repeat (first | (with_reducible first | exact HB.out | apply below_alloc | apply pw_below_drewN | apply below_drew1) | exact HB.out)) hb); clear HB; have HB := n0_; clear n0_; (try clear hb); (try clear hb2); (try clear hk); (try clear hi)) | ((with_reducible refine gate_callee (f := 10) rfl ?_); refine goesL_ (some 16) rfl rfl Tryd.func10 (by kernel_rfl) rfl #[.int .i64 128] rfl (by (try simp only [List.map_toArray, List.map_cons, List.map_nil]); first | done | rfl | (simp only [List.length_drop, List.length_take]; rfl)) ?_; (with_reducible refine (tuner_Name.calls 128 t113 t114 _ (tab_below HT.out (by repeat (first | (with_reducible first | exact HB.out | apply below_alloc | apply pw_below_drewN | apply below_drew1) | exact HB.out))) A3.out).mono ?_); rintro e w19 ⟨rfl, hb⟩; refine ⟨_, rfl, ?_⟩; have n0_ := Aside0.mk (below_step (by repeat (first | (with_reducible first | exact HB.out | apply below_alloc | apply pw_below_drewN | apply below_drew1) | exact HB.out)) hb); clear HB; have HB := n0_; clear n0_; (try clear hb); (try clear hb2); (try clear hk); (try clear hi)))
      go_ret
      exact ⟨by first | rfl | (simp [errW_none, errW_some] <;> rfl) | (simp [*, errW_none, errW_some] <;> rfl), by repeat (first | (with_reducible first | exact HB.out | apply below_alloc | apply pw_below_drewN | apply below_drew1) | exact HB.out)⟩
  · rw [if_neg c4] at H
    have c4b0 : (t109 == 69) = false := beq_eq_false_iff_ne.mpr c4
    have c4b1 : (t109 != 69) = true := bne_iff_ne.mpr c4
    obtain rfl := Option.some.inj H
    go_enter Tryd.func8, Tryd.ntmps8
    go_wp2_with (first | ((with_reducible refine gate_callee (f := 13) rfl ?_); refine goesL_ (some 8) rfl rfl Tryd.func13 (by kernel_rfl) rfl #[.int .u64 440] rfl (by (try simp only [List.map_toArray, List.map_cons, List.map_nil]); first | done | rfl | (simp only [List.length_drop, List.length_take]; rfl)) ?_; (with_reducible refine (tuner_Note.calls 440 t109 t110 _ A1.out).mono ?_); rintro e w20 ⟨rfl, hb⟩; refine ⟨_, rfl, ?_⟩; have n0_ := Aside0.mk (below_step (by repeat (first | (with_reducible first | exact HB.out | apply below_alloc | apply pw_below_drewN | apply below_drew1) | exact HB.out)) hb); clear HB; have HB := n0_; clear n0_; (try clear hb); (try clear hb2); (try clear hk); (try clear hi)) | ((with_reducible refine gate_callee (f := 10) rfl ?_); refine goesL_ (some 12) rfl rfl Tryd.func10 (by kernel_rfl) rfl #[.int .i64 69] rfl (by (try simp only [List.map_toArray, List.map_cons, List.map_nil]); first | done | rfl | (simp only [List.length_drop, List.length_take]; rfl)) ?_; (with_reducible refine (tuner_Name.calls 69 t111 t112 _ (tab_below HT.out (by repeat (first | (with_reducible first | exact HB.out | apply below_alloc | apply pw_below_drewN | apply below_drew1) | exact HB.out))) A2.out).mono ?_); rintro e w21 ⟨rfl, hb⟩; refine ⟨_, rfl, ?_⟩; have n0_ := Aside0.mk (below_step (by repeat (first | (with_reducible first | exact HB.out | apply below_alloc | apply pw_below_drewN | apply below_drew1) | exact HB.out)) hb); clear HB; have HB := n0_; clear n0_; (try clear hb); (try clear hb2); (try clear hk); (try clear hi)) | ((with_reducible refine gate_callee (f := 10) rfl ?_); refine goesL_ (some 16) rfl rfl Tryd.func10 (by kernel_rfl) rfl #[.int .i64 128] rfl (by (try simp only [List.map_toArray, List.map_cons, List.map_nil]); first | done | rfl | (simp only [List.length_drop, List.length_take]; rfl)) ?_; (with_reducible refine (tuner_Name.calls 128 t113 t114 _ (tab_below HT.out (by repeat (first | (with_reducible first | exact HB.out | apply below_alloc | apply pw_below_drewN | apply below_drew1) | exact HB.out))) A3.out).mono ?_); rintro e w22 ⟨rfl, hb⟩; refine ⟨_, rfl, ?_⟩; have n0_ := Aside0.mk (below_step (by repeat (first | (with_reducible first | exact HB.out | apply below_alloc | apply pw_below_drewN | apply below_drew1) | exact HB.out)) hb); clear HB; have HB := n0_; clear n0_; (try clear hb); (try clear hb2); (try clear hk); (try clear hi)))
    go_ret
    exact ⟨by first | rfl | (simp [errW_none, errW_some] <;> rfl) | (simp [*, errW_none, errW_some] <;> rfl), by repeat (first | (with_reducible first | exact HB.out | apply below_alloc | apply pw_below_drewN | apply below_drew1) | exact HB.out)⟩

/-! ### tuner_may: function 38 -/
def tuner_may.f (l0 : List Int) (a1 : Int) (a2 : Int) : Option (Int) := if (l0.length : Int) > 4096 then (some 2) else (if a2 < 1 then (some 1) else (if a2 > 4096 then (some 1) else (if a1 < 0 then (some 1) else (if a1 > a2 then (some 1) else (some 0)))))
set_option maxHeartbeats 8000000 in
set_option maxRecDepth 100000 in
theorem tuner_may.calls (A0 : Option Addr) (c0 : Nat) (l0 : List Int) (a1 : Int) (a2 : Int) (r : Int) (w : World) (hr0 : Kd.C (Kd.int .i16) w A0 l0.length l0) (hc0 : l0.length ≤ c0) (h : tuner_may.f l0 a1 a2 = some r) :
    Calls Tryd.prog 38 #[.slice A0 l0.length c0, .int .i64 a1, .int .i64 a2] w fun e w' => e = .returned (.int .i64 r) ∧ Drawn0 w w' := by
  have HR0 := Aside0.mk hr0
  have HC0 := Aside0.mk hc0
  clear hr0 hc0
  have H : (if (l0.length : Int) > 4096 then (some 2) else (if a2 < 1 then (some 1) else (if a2 > 4096 then (some 1) else (if a1 < 0 then (some 1) else (if a1 > a2 then (some 1) else (some 0)))))) = some r := h
  clear h
  by_cases c4 : (l0.length : Int) > 4096
  · rw [if_pos c4] at H
    have c4b0 : decide (4096 < (l0.length : Int)) = true := decide_eq_true c4
    have c4b1 : decide (4096 < l0.length) = true := decide_eq_true (by omega)
    clear c4
    obtain rfl := Option.some.inj H
    go_enter Tryd.func38, Tryd.ntmps38
    go_wp2
    go_ret
    exact ⟨by first | rfl | (simp; done) | (simp [*]; done), by repeat (first | exact Drawn0.refl _ | apply Drawn0.step)⟩
  · rw [if_neg c4] at H
    have c4b0 : decide (4096 < (l0.length : Int)) = false := decide_eq_false c4
    have c4b1 : decide (4096 < l0.length) = false := decide_eq_false (by omega)
    clear c4
    by_cases c5 : a2 < 1
    · rw [if_pos c5] at H
      have c5b0 : decide (a2 < 1) = true := decide_eq_true c5
      clear c5
      obtain rfl := Option.some.inj H
      go_enter Tryd.func38, Tryd.ntmps38
      go_wp2
      go_ret
      exact ⟨by first | rfl | (simp; done) | (simp [*]; done), by repeat (first | exact Drawn0.refl _ | apply Drawn0.step)⟩
    · rw [if_neg c5] at H
      have c5b0 : decide (a2 < 1) = false := decide_eq_false c5
      clear c5
      by_cases c6 : a2 > 4096
      · rw [if_pos c6] at H
        have c6b0 : decide (4096 < a2) = true := decide_eq_true c6
        clear c6
        obtain rfl := Option.some.inj H
        go_enter Tryd.func38, Tryd.ntmps38
        go_wp2
        go_ret
        exact ⟨by first | rfl | (simp; done) | (simp [*]; done), by repeat (first | exact Drawn0.refl _ | apply Drawn0.step)⟩
      · rw [if_neg c6] at H
        have c6b0 : decide (4096 < a2) = false := decide_eq_false c6
        clear c6
        by_cases c7 : a1 < 0
        · rw [if_pos c7] at H
          have c7b0 : decide (a1 < 0) = true := decide_eq_true c7
          clear c7
          obtain rfl := Option.some.inj H
          go_enter Tryd.func38, Tryd.ntmps38
          go_wp2
          go_ret
          exact ⟨by first | rfl | (simp; done) | (simp [*]; done), by repeat (first | exact Drawn0.refl _ | apply Drawn0.step)⟩
        · rw [if_neg c7] at H
          have c7b0 : decide (a1 < 0) = false := decide_eq_false c7
          clear c7
          by_cases c8 : a1 > a2
          · rw [if_pos c8] at H
            have c8b0 : decide (a2 < a1) = true := decide_eq_true c8
            clear c8
            obtain rfl := Option.some.inj H
            go_enter Tryd.func38, Tryd.ntmps38
            go_wp2
            go_ret
            exact ⟨by first | rfl | (simp; done) | (simp [*]; done), by repeat (first | exact Drawn0.refl _ | apply Drawn0.step)⟩
          · rw [if_neg c8] at H
            have c8b0 : decide (a2 < a1) = false := decide_eq_false c8
            clear c8
            obtain rfl := Option.some.inj H
            go_enter Tryd.func38, Tryd.ntmps38
            go_wp2
            go_ret
            exact ⟨by first | rfl | (simp; done) | (simp [*]; done), by repeat (first | exact Drawn0.refl _ | apply Drawn0.step)⟩

/-! ### fix_within_int: function 58 -/
def fix_within_int.f (a0 : Int) (a1 : Int) (a2 : Int) : Option (Int) := if a0 < a1 then (some a1) else (if a0 > a2 then (some a2) else (some a0))
set_option maxHeartbeats 8000000 in
set_option maxRecDepth 100000 in
theorem fix_within_int.calls (a0 : Int) (a1 : Int) (a2 : Int) (r : Int) (w : World) (h : fix_within_int.f a0 a1 a2 = some r) :
    Calls Tryd.prog 58 #[.int .i64 a0, .int .i64 a1, .int .i64 a2] w fun e w' => e = .returned (.int .i64 r) ∧ Drawn0 w w' := by
  have H : (if a0 < a1 then (some a1) else (if a0 > a2 then (some a2) else (some a0))) = some r := h
  clear h
  by_cases c4 : a0 < a1
  · rw [if_pos c4] at H
    have c4b0 : decide (a0 < a1) = true := decide_eq_true c4
    clear c4
    obtain rfl := Option.some.inj H
    go_enter Tryd.func58, Tryd.ntmps58
    go_wp2
    go_ret
    exact ⟨by first | rfl | (simp; done) | (simp [*]; done), by repeat (first | exact Drawn0.refl _ | apply Drawn0.step)⟩
  · rw [if_neg c4] at H
    have c4b0 : decide (a0 < a1) = false := decide_eq_false c4
    clear c4
    by_cases c5 : a0 > a2
    · rw [if_pos c5] at H
      have c5b0 : decide (a2 < a0) = true := decide_eq_true c5
      clear c5
      obtain rfl := Option.some.inj H
      go_enter Tryd.func58, Tryd.ntmps58
      go_wp2
      go_ret
      exact ⟨by first | rfl | (simp; done) | (simp [*]; done), by repeat (first | exact Drawn0.refl _ | apply Drawn0.step)⟩
    · rw [if_neg c5] at H
      have c5b0 : decide (a2 < a0) = false := decide_eq_false c5
      clear c5
      obtain rfl := Option.some.inj H
      go_enter Tryd.func58, Tryd.ntmps58
      go_wp2
      go_ret
      exact ⟨by first | rfl | (simp; done) | (simp [*]; done), by repeat (first | exact Drawn0.refl _ | apply Drawn0.step)⟩

/-! ### fix_Round: function 41 -/
def fix_Round.f (a0 : Int) (a1 : Int) : Option (Int) := (fix_within_int.f a1 0 62).bind fun t115 => (if t115 = 0 then (some a0) else (if 0 ≤ t115 then (if 0 ≤ (wrap64 (t115 - 1)) then (some (wrap64 ((shr .i64 a0 t115) + (Go.bits .and .i64 (shr .i64 a0 (wrap64 (t115 - 1))) 1)))) else (none)) else (none)))
set_option maxHeartbeats 8000000 in
set_option maxRecDepth 100000 in
theorem fix_Round.calls (a0 : Int) (a1 : Int) (r : Int) (w : World) (h : fix_Round.f a0 a1 = some r) :
    Calls Tryd.prog 41 #[.int .i64 a0, .int .i64 a1] w fun e w' => e = .returned (.int .i64 r) ∧ Drawn0 w w' := by
  have H : ((fix_within_int.f a1 0 62).bind fun t115 => (if t115 = 0 then (some a0) else (if 0 ≤ t115 then (if 0 ≤ (wrap64 (t115 - 1)) then (some (wrap64 ((shr .i64 a0 t115) + (Go.bits .and .i64 (shr .i64 a0 (wrap64 (t115 - 1))) 1)))) else (none)) else (none)))) = some r := h
  clear h
  replace H := Option.bind_eq_some_iff.mp H
  obtain ⟨t115, A30, H⟩ := H
  replace H : (if t115 = 0 then (some a0) else (if 0 ≤ t115 then (if 0 ≤ (wrap64 (t115 - 1)) then (some (wrap64 ((shr .i64 a0 t115) + (Go.bits .and .i64 (shr .i64 a0 (wrap64 (t115 - 1))) 1)))) else (none)) else (none))) = some r := H
  have A3 := Aside0.mk A30
  clear A30
  by_cases c4 : t115 = 0
  · rw [if_pos c4] at H
    have c4b0 : (t115 == 0) = true := beq_iff_eq.mpr c4
    have c4b1 : (t115 != 0) = false := bne_eq_false_iff_eq.mpr c4
    clear c4
    obtain rfl := Option.some.inj H
    go_enter Tryd.func41, Tryd.ntmps41
    go_wp2_with (first | (go_at_call 58; (with_reducible refine (fix_within_int.calls a1 0 62 t115 _ A3.out).mono ?_); rintro e w' ⟨rfl, ⟨nd, rfl⟩⟩; (try first | exact ⟨rfl, _, World.drewN_drewN _ _ _⟩ | exact ⟨rfl, _, Eq.trans (World.drewN_drewN _ _ _) (congrArg (World.drewN _) (Nat.add_assoc _ _ _))⟩)))
    repeat (go_quiet (first | (go_at_call 58; (with_reducible refine (fix_within_int.calls a1 0 62 t115 _ A3.out).mono ?_); rintro e w' ⟨rfl, ⟨nd, rfl⟩⟩; (try first | exact ⟨rfl, _, World.drewN_drewN _ _ _⟩ | exact ⟨rfl, _, Eq.trans (World.drewN_drewN _ _ _) (congrArg (World.drewN _) (Nat.add_assoc _ _ _))⟩))); try go_wp2_with (first | (go_at_call 58; (with_reducible refine (fix_within_int.calls a1 0 62 t115 _ A3.out).mono ?_); rintro e w' ⟨rfl, ⟨nd, rfl⟩⟩; (try first | exact ⟨rfl, _, World.drewN_drewN _ _ _⟩ | exact ⟨rfl, _, Eq.trans (World.drewN_drewN _ _ _) (congrArg (World.drewN _) (Nat.add_assoc _ _ _))⟩))))
    go_ret
    exact ⟨by first | rfl | (simp; done) | (simp [*]; done), by repeat (first | exact Drawn0.refl _ | apply Drawn0.step)⟩
  · rw [if_neg c4] at H
    have c4b0 : (t115 == 0) = false := beq_eq_false_iff_ne.mpr c4
    have c4b1 : (t115 != 0) = true := bne_iff_ne.mpr c4
    by_cases c5 : 0 ≤ t115
    · rw [if_pos c5] at H
      have c5b0 := eq_true c5
      have c5b1 : decide (0 ≤ t115) = true := decide_eq_true c5
      clear c5
      obtain ⟨ji6, hji6⟩ : ∃ j_ : Int, (shr .i64 a0 t115) = j_ := ⟨_, rfl⟩
      replace H : (if 0 ≤ (wrap64 (t115 - 1)) then (some (wrap64 ((ji6) + (Go.bits .and .i64 (shr .i64 a0 (wrap64 (t115 - 1))) 1)))) else (none)) = some r := by first | (rw [hji6] at H; exact H) | (simp only [hji6] at H ⊢; exact H)
      (try rw [hji6] at A3)
      have hji6_ : (a0 / 2 ^ min t115.toNat 64) = ji6 := hji6
      have hji6z : t115 ≤ 64 → (a0 / 2 ^ t115.toNat) = ji6 := shr_small hji6
      obtain ⟨ji7, hji7⟩ : ∃ j_ : Int, (wrap64 (t115 - 1)) = j_ := ⟨_, rfl⟩
      replace H : (if 0 ≤ (ji7) then (some (wrap64 ((ji6) + (Go.bits .and .i64 (shr .i64 a0 (ji7)) 1)))) else (none)) = some r := by first | (rw [hji7] at H; exact H) | (simp only [hji7] at H ⊢; exact H)
      (try rw [hji7] at A3)
      have hji7w : (IntKind.i64.wrap (t115 - 1)) = ji7 := (i64_w _).trans hji7
      by_cases c8 : 0 ≤ (ji7)
      · rw [if_pos c8] at H
        have c8b0 := eq_true c8
        have c8b1 : decide (0 ≤ (ji7)) = true := decide_eq_true c8
        clear c8
        obtain ⟨ji9, hji9⟩ : ∃ j_ : Int, (shr .i64 a0 (ji7)) = j_ := ⟨_, rfl⟩
        replace H : (some (wrap64 ((ji6) + (Go.bits .and .i64 (ji9) 1)))) = some r := by first | (rw [hji9] at H; exact H) | (simp only [hji9] at H ⊢; exact H)
        (try rw [hji9] at A3)
        have hji9_ : (a0 / 2 ^ min (ji7).toNat 64) = ji9 := hji9
        have hji9z : (ji7) ≤ 64 → (a0 / 2 ^ (ji7).toNat) = ji9 := shr_small hji9
        obtain rfl := Option.some.inj H
        go_enter Tryd.func41, Tryd.ntmps41
        go_wp2_with (first | (go_at_call 58; (with_reducible refine (fix_within_int.calls a1 0 62 t115 _ A3.out).mono ?_); rintro e w' ⟨rfl, ⟨nd, rfl⟩⟩; (try first | exact ⟨rfl, _, World.drewN_drewN _ _ _⟩ | exact ⟨rfl, _, Eq.trans (World.drewN_drewN _ _ _) (congrArg (World.drewN _) (Nat.add_assoc _ _ _))⟩)))
        repeat (go_quiet (first | (go_at_call 58; (with_reducible refine (fix_within_int.calls a1 0 62 t115 _ A3.out).mono ?_); rintro e w' ⟨rfl, ⟨nd, rfl⟩⟩; (try first | exact ⟨rfl, _, World.drewN_drewN _ _ _⟩ | exact ⟨rfl, _, Eq.trans (World.drewN_drewN _ _ _) (congrArg (World.drewN _) (Nat.add_assoc _ _ _))⟩))); try go_wp2_with (first | (go_at_call 58; (with_reducible refine (fix_within_int.calls a1 0 62 t115 _ A3.out).mono ?_); rintro e w' ⟨rfl, ⟨nd, rfl⟩⟩; (try first | exact ⟨rfl, _, World.drewN_drewN _ _ _⟩ | exact ⟨rfl, _, Eq.trans (World.drewN_drewN _ _ _) (congrArg (World.drewN _) (Nat.add_assoc _ _ _))⟩))))
        go_ret
        exact ⟨by first | rfl | (simp; done) | (simp only [← hji6, ← hji7, ← hji9] <;> (first | rfl | simp)) | (simp [*]; done), by repeat (first | exact Drawn0.refl _ | apply Drawn0.step)⟩
      · rw [if_neg c8] at H
        exact absurd H (by simp)
    · rw [if_neg c5] at H
      exact absurd H (by simp)

/-! ### wave_modulo: function 57 -/
def wave_modulo.f (a0 : Int) (a1 : Int) : Option (Int) := if a1 = 0 then (none) else (if (Int.tmod a0 a1) < 0 then (some (wrap64 ((Int.tmod a0 a1) + a1))) else (some (Int.tmod a0 a1)))
set_option maxHeartbeats 8000000 in
set_option maxRecDepth 100000 in
theorem wave_modulo.calls (a0 : Int) (a1 : Int) (r : Int) (w : World) (h : wave_modulo.f a0 a1 = some r) :
    Calls Tryd.prog 57 #[.int .i64 a0, .int .i64 a1] w fun e w' => e = .returned (.int .i64 r) ∧ Drawn0 w w' := by
  have H : (if a1 = 0 then (none) else (if (Int.tmod a0 a1) < 0 then (some (wrap64 ((Int.tmod a0 a1) + a1))) else (some (Int.tmod a0 a1)))) = some r := h
  clear h
  by_cases c3 : a1 = 0
  · rw [if_pos c3] at H
    exact absurd H (by simp)
  · rw [if_neg c3] at H
    have c3b0 : (a1 == 0) = false := beq_eq_false_iff_ne.mpr c3
    have c3b1 : (a1 != 0) = true := bne_iff_ne.mpr c3
    by_cases c4 : (Int.tmod a0 a1) < 0
    · rw [if_pos c4] at H
      have c4b0 : decide ((Int.tmod a0 a1) < 0) = true := decide_eq_true c4
      clear c4
      obtain rfl := Option.some.inj H
      go_enter Tryd.func57, Tryd.ntmps57
      go_wp2
      go_ret
      exact ⟨by first | rfl | (simp; done) | (simp [*]; done), by repeat (first | exact Drawn0.refl _ | apply Drawn0.step)⟩
    · rw [if_neg c4] at H
      have c4b0 : decide ((Int.tmod a0 a1) < 0) = false := decide_eq_false c4
      clear c4
      obtain rfl := Option.some.inj H
      go_enter Tryd.func57, Tryd.ntmps57
      go_wp2
      go_ret
      exact ⟨by first | rfl | (simp; done) | (simp [*]; done), by repeat (first | exact Drawn0.refl _ | apply Drawn0.step)⟩

/-! ### wave_height: function 70 -/
def wave_height.f (a0 : Int) (a1 : Int) : Option (Int × Int) := (wave_modulo.f a0 a1).bind fun t116 => (if a1 = 0 then (none) else (if (Go.bits .and .i64 (wrap64 (Int.tdiv (wrap64 (4 * t116)) a1)) 1) = 1 then (if (IntKind.u64.wrap (a1)) = 0 then (none) else (some (IntKind.u64.wrap (Int.tdiv (IntKind.u64.wrap ((IntKind.u64.wrap (wrap64 (a1 - (Int.tmod (wrap64 (4 * t116)) a1)))) * 1073741824)) (IntKind.u64.wrap (a1))), wrap64 (Int.tdiv (wrap64 (4 * t116)) a1)))) else (if (IntKind.u64.wrap (a1)) = 0 then (none) else (some (IntKind.u64.wrap (Int.tdiv (IntKind.u64.wrap ((IntKind.u64.wrap (Int.tmod (wrap64 (4 * t116)) a1)) * 1073741824)) (IntKind.u64.wrap (a1))), wrap64 (Int.tdiv (wrap64 (4 * t116)) a1))))))
set_option maxHeartbeats 8000000 in
set_option maxRecDepth 100000 in
theorem wave_height.calls (a0 : Int) (a1 : Int) (r1 : Int) (r2 : Int) (w : World) (h : wave_height.f a0 a1 = some (r1, r2)) :
    Calls Tryd.prog 70 #[.int .i64 a0, .int .i64 a1] w fun e w' => e = .returned (.tuple #[.int .u64 r1, .int .i64 r2]) ∧ Drawn0 w w' := by
  have H : ((wave_modulo.f a0 a1).bind fun t116 => (if a1 = 0 then (none) else (if (Go.bits .and .i64 (wrap64 (Int.tdiv (wrap64 (4 * t116)) a1)) 1) = 1 then (if (IntKind.u64.wrap (a1)) = 0 then (none) else (some (IntKind.u64.wrap (Int.tdiv (IntKind.u64.wrap ((IntKind.u64.wrap (wrap64 (a1 - (Int.tmod (wrap64 (4 * t116)) a1)))) * 1073741824)) (IntKind.u64.wrap (a1))), wrap64 (Int.tdiv (wrap64 (4 * t116)) a1)))) else (if (IntKind.u64.wrap (a1)) = 0 then (none) else (some (IntKind.u64.wrap (Int.tdiv (IntKind.u64.wrap ((IntKind.u64.wrap (Int.tmod (wrap64 (4 * t116)) a1)) * 1073741824)) (IntKind.u64.wrap (a1))), wrap64 (Int.tdiv (wrap64 (4 * t116)) a1))))))) = some (r1, r2) := h
  clear h
  replace H := Option.bind_eq_some_iff.mp H
  obtain ⟨t116, A30, H⟩ := H
  replace H : (if a1 = 0 then (none) else (if (Go.bits .and .i64 (wrap64 (Int.tdiv (wrap64 (4 * t116)) a1)) 1) = 1 then (if (IntKind.u64.wrap (a1)) = 0 then (none) else (some (IntKind.u64.wrap (Int.tdiv (IntKind.u64.wrap ((IntKind.u64.wrap (wrap64 (a1 - (Int.tmod (wrap64 (4 * t116)) a1)))) * 1073741824)) (IntKind.u64.wrap (a1))), wrap64 (Int.tdiv (wrap64 (4 * t116)) a1)))) else (if (IntKind.u64.wrap (a1)) = 0 then (none) else (some (IntKind.u64.wrap (Int.tdiv (IntKind.u64.wrap ((IntKind.u64.wrap (Int.tmod (wrap64 (4 * t116)) a1)) * 1073741824)) (IntKind.u64.wrap (a1))), wrap64 (Int.tdiv (wrap64 (4 * t116)) a1)))))) = some (r1, r2) := H
  have A3 := Aside0.mk A30
  clear A30
  by_cases c4 : a1 = 0
  · rw [if_pos c4] at H
    exact absurd H (by simp)
  · rw [if_neg c4] at H
    have c4b0 : (a1 == 0) = false := beq_eq_false_iff_ne.mpr c4
    have c4b1 : (a1 != 0) = true := bne_iff_ne.mpr c4
    by_cases c5 : (Go.bits .and .i64 (wrap64 (Int.tdiv (wrap64 (4 * t116)) a1)) 1) = 1
    · rw [if_pos c5] at H
      have c5b0 : ((Go.bits .and .i64 (wrap64 (Int.tdiv (wrap64 (4 * t116)) a1)) 1) == 1) = true := beq_iff_eq.mpr c5
      have c5b1 : ((Go.bits .and .i64 (wrap64 (Int.tdiv (wrap64 (4 * t116)) a1)) 1) != 1) = false := bne_eq_false_iff_eq.mpr c5
      clear c5
      by_cases c6 : (IntKind.u64.wrap (a1)) = 0
      · rw [if_pos c6] at H
        exact absurd H (by simp)
      · rw [if_neg c6] at H
        have c6b0 : ((IntKind.u64.wrap (a1)) == 0) = false := beq_eq_false_iff_ne.mpr c6
        have c6b1 : ((IntKind.u64.wrap (a1)) != 0) = true := bne_iff_ne.mpr c6
        simp only [Option.some.injEq, Prod.mk.injEq] at H
        obtain ⟨rfl, rfl⟩ := H
        go_enter Tryd.func70, Tryd.ntmps70
        go_wp2_with (first | ((with_reducible refine gate_callee (f := 57) rfl ?_); refine goesL_ (some 10) rfl rfl Tryd.func57 (by kernel_rfl) rfl #[.int .i64 a0, .int .i64 a1] rfl (by (try simp only [List.map_toArray, List.map_cons, List.map_nil]); first | done | rfl | (simp only [List.length_drop, List.length_take]; rfl)) ?_; (with_reducible refine (wave_modulo.calls a0 a1 t116 _ A3.out).mono ?_); rintro e w' ⟨rfl, ⟨nd, rfl⟩⟩; refine ⟨_, rfl, ?_⟩))
        go_ret2
        exact ⟨by first | rfl | (simp; done) | (simp [*]; done), by repeat (first | exact Drawn0.refl _ | apply Drawn0.step)⟩
    · rw [if_neg c5] at H
      have c5b0 : ((Go.bits .and .i64 (wrap64 (Int.tdiv (wrap64 (4 * t116)) a1)) 1) == 1) = false := beq_eq_false_iff_ne.mpr c5
      have c5b1 : ((Go.bits .and .i64 (wrap64 (Int.tdiv (wrap64 (4 * t116)) a1)) 1) != 1) = true := bne_iff_ne.mpr c5
      by_cases c7 : (IntKind.u64.wrap (a1)) = 0
      · rw [if_pos c7] at H
        exact absurd H (by simp)
      · rw [if_neg c7] at H
        have c7b0 : ((IntKind.u64.wrap (a1)) == 0) = false := beq_eq_false_iff_ne.mpr c7
        have c7b1 : ((IntKind.u64.wrap (a1)) != 0) = true := bne_iff_ne.mpr c7
        simp only [Option.some.injEq, Prod.mk.injEq] at H
        obtain ⟨rfl, rfl⟩ := H
        go_enter Tryd.func70, Tryd.ntmps70
        go_wp2_with (first | ((with_reducible refine gate_callee (f := 57) rfl ?_); refine goesL_ (some 10) rfl rfl Tryd.func57 (by kernel_rfl) rfl #[.int .i64 a0, .int .i64 a1] rfl (by (try simp only [List.map_toArray, List.map_cons, List.map_nil]); first | done | rfl | (simp only [List.length_drop, List.length_take]; rfl)) ?_; (with_reducible refine (wave_modulo.calls a0 a1 t116 _ A3.out).mono ?_); rintro e w' ⟨rfl, ⟨nd, rfl⟩⟩; refine ⟨_, rfl, ?_⟩))
        go_ret2
        exact ⟨by first | rfl | (simp; done) | (simp [*]; done), by repeat (first | exact Drawn0.refl _ | apply Drawn0.step)⟩

/-! ### fix_within_int64: function 83 -/
def fix_within_int64.f (a0 : Int) (a1 : Int) (a2 : Int) : Option (Int) := if a0 < a1 then (some a1) else (if a0 > a2 then (some a2) else (some a0))
set_option maxHeartbeats 8000000 in
set_option maxRecDepth 100000 in
theorem fix_within_int64.calls (a0 : Int) (a1 : Int) (a2 : Int) (r : Int) (w : World) (h : fix_within_int64.f a0 a1 a2 = some r) :
    Calls Tryd.prog 83 #[.int .i64 a0, .int .i64 a1, .int .i64 a2] w fun e w' => e = .returned (.int .i64 r) ∧ Drawn0 w w' := by
  have H : (if a0 < a1 then (some a1) else (if a0 > a2 then (some a2) else (some a0))) = some r := h
  clear h
  by_cases c4 : a0 < a1
  · rw [if_pos c4] at H
    have c4b0 : decide (a0 < a1) = true := decide_eq_true c4
    clear c4
    obtain rfl := Option.some.inj H
    go_enter Tryd.func83, Tryd.ntmps83
    go_wp2
    go_ret
    exact ⟨by first | rfl | (simp; done) | (simp [*]; done), by repeat (first | exact Drawn0.refl _ | apply Drawn0.step)⟩
  · rw [if_neg c4] at H
    have c4b0 : decide (a0 < a1) = false := decide_eq_false c4
    clear c4
    by_cases c5 : a0 > a2
    · rw [if_pos c5] at H
      have c5b0 : decide (a2 < a0) = true := decide_eq_true c5
      clear c5
      obtain rfl := Option.some.inj H
      go_enter Tryd.func83, Tryd.ntmps83
      go_wp2
      go_ret
      exact ⟨by first | rfl | (simp; done) | (simp [*]; done), by repeat (first | exact Drawn0.refl _ | apply Drawn0.step)⟩
    · rw [if_neg c5] at H
      have c5b0 : decide (a2 < a0) = false := decide_eq_false c5
      clear c5
      obtain rfl := Option.some.inj H
      go_enter Tryd.func83, Tryd.ntmps83
      go_wp2
      go_ret
      exact ⟨by first | rfl | (simp; done) | (simp [*]; done), by repeat (first | exact Drawn0.refl _ | apply Drawn0.step)⟩

/-! ### fix_Clip: function 71 -/
def fix_Clip.f (a0 : Int) (a1 : Int) (a2 : Int) : Option (Int) := (fix_within_int64.f a0 a1 a2).bind fun t117 => (some t117)
set_option maxHeartbeats 8000000 in
set_option maxRecDepth 100000 in
theorem fix_Clip.calls (a0 : Int) (a1 : Int) (a2 : Int) (r : Int) (w : World) (h : fix_Clip.f a0 a1 a2 = some r) :
    Calls Tryd.prog 71 #[.int .i64 a0, .int .i64 a1, .int .i64 a2] w fun e w' => e = .returned (.int .i64 r) ∧ Drawn0 w w' := by
  have H : ((fix_within_int64.f a0 a1 a2).bind fun t117 => (some t117)) = some r := h
  clear h
  replace H := Option.bind_eq_some_iff.mp H
  obtain ⟨t117, A40, H⟩ := H
  replace H : (some t117) = some r := H
  have A4 := Aside0.mk A40
  clear A40
  obtain rfl := Option.some.inj H
  go_enter Tryd.func71, Tryd.ntmps71
  go_wp2_with (first | ((with_reducible refine gate_callee (f := 83) rfl ?_); refine goesL_ (some 10) rfl rfl Tryd.func83 (by kernel_rfl) rfl #[.int .i64 a0, .int .i64 a1, .int .i64 a2] rfl (by (try simp only [List.map_toArray, List.map_cons, List.map_nil]); first | done | rfl | (simp only [List.length_drop, List.length_take]; rfl)) ?_; (with_reducible refine (fix_within_int64.calls a0 a1 a2 t117 _ A4.out).mono ?_); rintro e w' ⟨rfl, ⟨nd, rfl⟩⟩; refine ⟨_, rfl, ?_⟩))
  go_ret
  exact ⟨by first | rfl | (simp; done) | (simp [*]; done), by repeat (first | exact Drawn0.refl _ | apply Drawn0.step)⟩

/-! ### arr_wave_sine_22: an array of 4 numbers, read at an index -/
def arr_wave_sine_22.f (a0 : Int) : Option (Int) := if 0 ≤ a0 then (if a0 < 4 then (some (rd [5026995, 85569306, 693598668, 1686629713] a0)) else (none)) else (none)
theorem arr_wave_sine_22.run {a0 r : Int} (h : arr_wave_sine_22.f a0 = some r) (w : World) : (Instr.index 116 (.agg #[.int .u64 5026995, .int .u64 85569306, .int .u64 693598668, .int .u64 1686629713]) (.int .i64 a0)).run Tryd.prog w = .ok (.int .u64 r) w := by
  unfold arr_wave_sine_22.f at h
  by_cases h0 : 0 ≤ a0
  · rw [if_pos h0] at h
    by_cases h1 : a0 < 4
    · rw [if_pos h1] at h
      obtain rfl := Option.some.inj h
      have hc : a0 = 0 ∨ a0 = 1 ∨ a0 = 2 ∨ a0 = 3 := by omega
      have at0 : ∀ w_ : World, (Instr.index 116 (.agg #[.int .u64 5026995, .int .u64 85569306, .int .u64 693598668, .int .u64 1686629713]) (.int .i64 0)).run Tryd.prog w_ = .ok (.int .u64 5026995) w_ := fun _ => by kernel_rfl
      have at1 : ∀ w_ : World, (Instr.index 116 (.agg #[.int .u64 5026995, .int .u64 85569306, .int .u64 693598668, .int .u64 1686629713]) (.int .i64 1)).run Tryd.prog w_ = .ok (.int .u64 85569306) w_ := fun _ => by kernel_rfl
      have at2 : ∀ w_ : World, (Instr.index 116 (.agg #[.int .u64 5026995, .int .u64 85569306, .int .u64 693598668, .int .u64 1686629713]) (.int .i64 2)).run Tryd.prog w_ = .ok (.int .u64 693598668) w_ := fun _ => by kernel_rfl
      have at3 : ∀ w_ : World, (Instr.index 116 (.agg #[.int .u64 5026995, .int .u64 85569306, .int .u64 693598668, .int .u64 1686629713]) (.int .i64 3)).run Tryd.prog w_ = .ok (.int .u64 1686629713) w_ := fun _ => by kernel_rfl
      rcases hc with rfl | rfl | rfl | rfl
      · exact at0 w
      · exact at1 w
      · exact at2 w
      · exact at3 w
    · rw [if_neg h1] at h; cases h
  · rw [if_neg h0] at h; cases h

end Go.Proofs.YtiiebkfeodmefaaDoor.PTuner
