/- Pitch: the law PitchAgain walked. -/
import Derived.Test.YtblehkoonajofaaPitchCombsWalk
import Derived.Test.YtblehkoonajofaaPitchAgainPure
namespace Go.Proofs.Ytblehkoonajofaa.PPitch
open Go.RowKit Go.Proofs.YtblehkoonajofaaW.PrintWords Go.Proofs.YtblehkoonajofaaW.PrintLast Go.Proofs.YtblehkoonajofaaW.PrintMore
attribute [local go_sem] max2_int min2_int max_two min_two max_three min_three max_four min_four   -- for this text's walks alone
set_option linter.unusedVariables false
set_option linter.unusedSimpArgs false
theorem info21 : (Try.prog.info? 21).map (fun i => (i.zero, i.size, i.bytes)) = some (some (.int .i32 0), 1, 4) := by kernel_rfl
set_option maxHeartbeats 8000000 in
set_option maxRecDepth 100000 in
theorem psalterylaw18_PitchAgain.long (A0 A1 : Option Addr) (c0 n0 c1 n1 : Nat) (w : World) (hl : 120 < n1) :
    Calls Try.prog 5 #[.slice A0 n0 c0, .slice A1 n1 c1] w fun e w' => e = .returned (.bool true) ∧ Below w.heap.size w w' := by
  have t0 : decide ((120 : Int) < (n1 : Int)) = true := decide_eq_true (by omega)
  have t1 : decide (120 < n1) = true := decide_eq_true hl
  clear hl
  go_enter Try.func5, Try.ntmps5
  go_wp2_with (first | (go_at_call 13; refine (psalterylaw18_alive.holds _).mono ?_; rintro e w1 ⟨rfl, g2⟩; have HB1 := Aside0.mk g2; clear g2))
  go_ret
  exact ⟨rfl, HB1.out⟩
theorem pitch_Hunter_Feed.lag (p : Nat) (A : Option Addr) (n c : Nat) (P x all : List Int) (lg s : Int) (ks : Nat) (w : World) (hp : Past w p 86 P) (hx : ReadsInt w .i16 A n x) (hn : n ≤ 120) (hr : ∀ v ∈ x, -32768 ≤ v ∧ v ≤ 32767) (hall : all = P ++ x) (hlg : lg = if s = 0 then 0 else (pbest all n 63).1)
    (hs : pitch_strength.f ks (pbest all n 63).2 (IntKind.u64.wrap (psum all 0 0 n)) (IntKind.u64.wrap (psum all (pbest all n 63).1 (pbest all n 63).1 n)) = some s) :
    Calls Try.prog 15 #[.pointer (some ⟨p, 0, none⟩), .slice A n c] w fun e w' => e = .returned (.tuple #[.agg #[.int .i64 lg, .int .i64 s], .int .i64 0]) ∧ Past w' p 86 (all.drop n) ∧ Only w w' p := by
  subst hlg
  exact pitch_Hunter_Feed.calls p A n c P x all s ks w hp hx hn hr hall hs
theorem againL_succ (l : List Int) (j : Nat) : againL l (j + 1) = againL l j ++ [over l j] := by rw [againL, List.range_succ, List.map_append]; rfl
theorem lasts_next' (A x : List Int) {n : Nat} (h : x.length = n) : (lasts A ++ x).drop n = lasts (A ++ x) := by rw [← h]; exact lasts_next A x
theorem again_reads {w : World} {base T cg : Nat} {Ag : Option Addr} {l R : List Int} (hR : R = againL l T) (h : w.ownsRow base 33 1 (.slice Ag 120 cg) 120 (nums .i16 (againL l 120))) (hT : T ≤ 120) : ReadsInt w .i16 Ag T R := by
  rw [hR]
  have h1 := (own_reads' h).take_ T hT
  have e : (againL l 120).take T = againL l T := by rw [againL, ← List.map_take, List.take_range, Nat.min_eq_left hT]; rfl
  rwa [e] at h1
theorem own_only {w wy : World} {base n p : Nat} {v : Value} {xs : List Value} {P : List Int} (h : w.ownsRow base 33 1 v n xs) (hp : Past w p 86 P) (g : Only w wy p) : wy.ownsRow base 33 1 v n xs :=
  own_move h fun b hb => g.block b (own_lt h b hb) (by intro e; subst e; exact own_ne h hp.1 (by decide) hb.symm)
theorem two_turns {n0 T : Nat} (hd : 16 ≤ n0 ∧ n0 ≤ 79) (hT : T = 120 / n0 * n0) (h : T < 79) : 79 ≤ T + T := by
  have h1 : 120 < (120 / n0 + 1) * n0 := Nat.lt_mul_of_div_lt (by omega) (by omega)
  rw [Nat.add_mul, Nat.one_mul, ← hT] at h1
  have h2 : n0 ≤ T := by
    have h2 : 1 ≤ 120 / n0 := Nat.div_pos (by omega) (by omega)
    have h3 : 1 * n0 ≤ 120 / n0 * n0 := Nat.mul_le_mul_right _ h2
    omega
  omega
theorem over_again {l R : List Int} {T : Nat} (hR : R = againL l T) (hT : ∃ m, T = m * l.length) : ∀ (k : Nat) (j : Nat), j < k * T → ((List.replicate k R).flatten).getD j 0 = over l j
  | 0, j, h => by simp at h
  | k + 1, j, h => by
    obtain ⟨m, hm⟩ := hT
    have hRl : R.length = T := by rw [hR, againL_length]
    rw [List.replicate_succ, List.flatten_cons, List.getD_eq_getElem?_getD]
    by_cases c : j < T
    · rw [List.getElem?_append_left (by omega), ← List.getD_eq_getElem?_getD, hR, againL_at l c]
    · rw [List.getElem?_append_right (by omega), ← List.getD_eq_getElem?_getD, hRl, over_again hR ⟨m, hm⟩ k (j - T) (by rw [Nat.succ_mul] at h; omega)]
      have := over_mul l (j - T) m
      rw [← hm, Nat.sub_add_cancel (by omega)] at this
      exact this.symm
theorem over_hist {l R : List Int} {T m : Nat} (hR : R = againL l T) (hRl : R.length = T) (hT : T = m * l.length) (k : Nat) (A : List Int) (hA : A = (List.replicate k R).flatten) : ∀ j, j < A.length + T → (A ++ R).getD j 0 = over l j := by
  intro j hj
  have e : A ++ R = (List.replicate (k + 1) R).flatten := by rw [List.replicate_succ', List.flatten_append, hA]; simp
  rw [e]
  refine over_again hR ⟨m, hT⟩ (k + 1) j ?_
  have hl : A.length = k * T := by rw [hA, List.length_flatten, List.map_replicate, List.sum_replicate_nat, hRl]
  rw [Nat.succ_mul, ← hl]; exact hj
theorem hist_range {B x : List Int} (hB : ∀ v ∈ B, -32768 ≤ v ∧ v ≤ 32767) (hx : ∀ v ∈ x, -32768 ≤ v ∧ v ≤ 32767) : ∀ v ∈ lasts B ++ x, -32768 ≤ v ∧ v ≤ 32767 := by
  intro v hv
  rcases List.mem_append.1 hv with hv | hv
  · have h_ := List.mem_of_mem_drop hv
    rcases List.mem_append.1 h_ with h_ | h_
    · rw [List.eq_of_mem_replicate h_]; omega
    · exact hB v h_
  · exact hx v hv
/-- The hunter's past, and what lies below. -/
structure PInv (w wx : World) (p : Nat) (P : List Int) : Prop where
  pp : Past wx p 86 P
  be : Below w.heap.size w wx
  ge : w.heap.size ≤ p
theorem PInv.later {w wx wy : World} {p : Nat} {P : List Int} (h : PInv w wx p P) (hb : Below wx.heap.size wx wy) : PInv w wy p P :=
  ⟨⟨(hb.block p (blk_lt h.pp.1)).trans h.pp.1, h.pp.2⟩, below_step h.be hb, h.ge⟩
theorem PInv.feed {w wx wy : World} {p : Nat} {P Q : List Int} (h : PInv w wx p P) (g1 : Past wy p 86 Q) (g2 : Only wx wy p) : PInv w wy p Q := ⟨g1, g2.below h.be (below_size h.be) h.ge, h.ge⟩
/-- The first half: noise, and then nothing. -/
structure NInv (w wx : World) (p q gx : Nat) (P L : List Int) : Prop where
  pi : PInv w wx p P
  cq : Past wx q 95 (List.replicate 79 0)
  gq : w.heap.size ≤ q
  xx : wx.heap[gx]? = some (.cells (nums .i32 L).toArray 21 (0, 0))
  gx' : w.heap.size ≤ gx
theorem NInv.set {w wx : World} {p q gx : Nat} {P L : List Int} (h : NInv w wx p q gx P L) (i : Nat) (v : Int) : NInv w (wx.setCell ⟨gx, i, none⟩ (.int .i32 v)) p q gx P (L.set i v) := by
  have e1 : p ≠ gx := by intro e; subst e; have h1 := h.pi.pp.1; rw [h.xx] at h1; simp at h1
  have e2 : q ≠ gx := by intro e; subst e; have h1 := h.cq.1; rw [h.xx] at h1; simp at h1
  exact ⟨⟨⟨(Below.heap_setCell _ _ _ _ e1).trans h.pi.pp.1, h.pi.pp.2⟩, h.pi.be.setCell h.gx' _, h.pi.ge⟩, ⟨(Below.heap_setCell _ _ _ _ e2).trans h.cq.1, h.cq.2⟩, h.gq, blk_store h.xx i v, h.gx'⟩
theorem past_ne {w : World} {p q : Nat} {P Q : List Int} (h : Past w p 86 P) (g : Past w q 95 Q) : p ≠ q := by
  intro e; subst e; have h1 := h.1; rw [g.1] at h1; simp at h1
set_option maxHeartbeats 8000000 in
set_option maxRecDepth 100000 in
theorem psalterylaw18_PitchAgain.walk (A0 A1 : Option Addr) (c0 n0 c1 n1 : Nat) (l x : List Int) (w : World) (hl : n1 ≤ 120) (hc : n1 ≤ c1)
    (h0 : ReadsInt w .i16 A0 n0 l) (hr0 : ∀ v ∈ l, -32768 ≤ v ∧ v ≤ 32767) (h1 : ReadsInt w .i16 A1 n1 x) (hr1 : ∀ v ∈ x, -32768 ≤ v ∧ v ≤ 32767) :
    Calls Try.prog 5 #[.slice A0 n0 c0, .slice A1 n1 c1] w fun e w' => e = .returned (.bool true) ∧ Below w.heap.size w w' := by
  have hmk := print_make 41 21 .i32 4 Try.underlying41 info21 (by decide) n1 (by omega)
  have hmh : ∀ W : World, (Instr.makeSlice 27 (.int .i64 100) (.int .i64 100)).run Try.prog W = .ok (.slice (some ⟨W.heap.size, 0, none⟩) 100 100) (W.alloc (.cells (madeCells #[.int .i16 0] 100) 33)) := fun W => print_make 27 33 .i16 2 Try.underlying27 info33 (by decide) 100 (by omega) W
  have HL := Aside0.mk hl
  have HC := Aside0.mk hc
  have HX0 := Aside0.mk h0
  have HR0 := Aside0.mk hr0
  have HX1 := Aside0.mk h1
  have HR1 := Aside0.mk hr1
  have hu29 := Try.underlying29
  have t0 : decide ((120 : Int) < (n1 : Int)) = false := decide_eq_false (by omega)
  have t1 : decide (120 < n1) = false := decide_eq_false (by omega)
  obtain ⟨s1, k1, hs1, _⟩ := Hunt_is (A := []) (x := x) h1.1 hl (by simp; omega) (hist_range (fun v h => by cases h) hr1)
  rw [lasts_nil] at hs1
  have HS1 := Aside0.mk hs1
  obtain ⟨g1, hg1⟩ : ∃ g1, g1 = if s1 = 0 then 0 else (pbest (List.replicate 79 0 ++ x) n1 63).1 := ⟨_, rfl⟩
  have HG1 := Aside0.mk hg1
  clear hl hc h0 hr0 h1 hr1 hs1 hg1
  go_enter Try.func5, Try.ntmps5
  go_wp2_with (first | (go_at_call 13; refine (psalterylaw18_alive.holds _).mono ?_; rintro e w1 ⟨rfl, g2⟩; have HB1 := Aside0.mk g2; clear g2) | (go_at_call 14; refine (pitch_NewHunter.calls _).mono ?_; rintro e w2 ⟨rfl, g1, g2⟩; have HI2 := Aside0.mk (show PInv w w2 w1.heap.size (List.replicate 79 0) from ⟨g1, below_step HB1.out g2, below_size HB1.out⟩); clear g1 g2) | (go_at_call 17; refine (pitch_NewComb.calls _).mono ?_; rintro e w3 ⟨rfl, g1, g2⟩; have HI3 := Aside0.mk (HI2.out.later g2); have HC3 := Aside0.mk g1; have HG3 := Aside0.mk (below_size HI2.out.be); clear g1 g2) | (go_at_call 15; refine (pitch_Hunter_Feed.lag w1.heap.size A1 n1 c1 (List.replicate 79 0) x (List.replicate 79 0 ++ x) g1 s1 k1 _ HI3.out.pp (HX1.out.below HI3.out.be) HL.out HR1.out rfl HG1.out HS1.out).mono ?_; rintro e w4 ⟨rfl, g1, g2⟩; have HI4 := Aside0.mk (HI3.out.feed g1 g2); have HC4 := Aside0.mk (show Past w4 w2.heap.size 95 (List.replicate 79 0) from ⟨(g2.block _ (blk_lt HC3.out.1) (past_ne HI3.out.pp HC3.out).symm).trans HC3.out.1, HC3.out.2⟩); clear g1 g2))
  go_loopg [8] n1 (fun kq v8 wx => ∃ i : Nat, v8 = .int .i64 i ∧ Aside0 (kq + i = n1) ∧ Aside0 (NInv w wx w1.heap.size w2.heap.size w4.heap.size ((List.replicate 79 0 ++ x).drop n1) (x.take i ++ List.replicate (n1 - i) 0)))
  case atStart => exact ⟨0, rfl, ⟨rfl⟩, ⟨⟨HI4.out.later (below_alloc (Below.refl _ _) _), ⟨((below_alloc (Below.refl _ _) _).block _ (blk_lt HC4.out.1)).trans HC4.out.1, HC4.out.2⟩, HG3.out, by rw [blk_new, made_nums]; rfl, below_size HI4.out.be⟩⟩⟩
  case round =>
    clear HI4 HC4 HI3 HC3 HI2
    obtain ⟨i, rfl, HK, HN⟩ := hrel
    by_cases hi : i < n1
    · have b0 : decide ((i : Int) < (n1 : Int)) = true := decide_eq_true (by omega)
      have b1 : decide (i < n1) = true := decide_eq_true hi
      have b2 : ((i : Int) < (n1 : Int)) = True := eq_true (by omega)
      obtain ⟨ad, eA, hcell⟩ := HX1.out.2.2 (by omega)
      obtain ⟨y, hy⟩ : ∃ y, y = x.getD i 0 := ⟨_, rfl⟩
      have hyr : -32768 ≤ y ∧ y ≤ 32767 := by rw [hy, List.getD_eq_getElem?_getD, List.getElem?_eq_getElem (by rw [HX1.out.1]; omega)]; exact HR1.out _ (List.getElem_mem _)
      have hyw : IntKind.i32.wrap y = y := IntWalk.i32_in _ (by omega)
      have hyw2 : wrap32 y = y := by unfold wrap32; omega
      have hx0 := hcell i hi
      rw [← hy] at hx0
      have hx1 := (HN.out.pi.be.cell (World.block_lt_of_cell? w _ hx0)).trans hx0
      subst eA
      have hc := nums_at HN.out.xx (i := i) (by rw [List.length_append, List.length_take, List.length_replicate, HX1.out.1]; omega)
      have hf : wr.frozen? ⟨w4.heap.size, i, none⟩ = false := blk_frozen HN.out.xx i
      have HY := Aside0.mk hy
      have HII := Aside0.mk hi
      clear hx0 hcell hyr hy hi
      go_wp2
      go_roundg (gk - 1)
      case rel => exact ⟨i + 1, by rw [wrap64_nat1 (by have := HL.out; have := HII.out; omega)], ⟨by have := HK.out; have := HII.out; omega⟩, ⟨by have h_ := HN.out.set i y; rw [HY.out, set_next HII.out HX1.out.1] at h_; rw [HY.out]; exact h_⟩⟩
      case measure => have := HK.out; have := HII.out; omega
    · obtain rfl : i = n1 := by have := HK.out; omega
      have hxx : wr.heap[w4.heap.size]? = some (.cells (nums .i32 x).toArray 21 (0, 0)) := by
        rw [HN.out.xx, Nat.sub_self, List.replicate_zero, List.append_nil, List.take_of_length_le (by rw [HX1.out.1]; exact Nat.le_refl _)]
      have HXX := Aside0.mk hxx
      have HIr := Aside0.mk HN.out.pi
      have HCO := Aside0.mk (show x = combL (List.replicate 79 0 ++ x) 0 (wrap64 (0 * 4096)) i from by rw [← HX1.out.1]; exact (comb_none x HR1.out).symm)
      clear hxx hi
      by_cases ha : n0 < 16
      · have d0 : decide ((n0 : Int) < 16) = true := decide_eq_true (by omega)
        have d1 : decide (n0 < 16) = true := decide_eq_true ha
        clear ha
        go_wp2_with (first | (go_at_call 18; refine (pitch_Comb_Feed.calls w2.heap.size (some ⟨w4.heap.size, 0, none⟩) i i 0 0 (List.replicate 79 0) x (List.replicate 79 0 ++ x) x _ HN.out.cq (blk_reads HXX.out HX1.out.1 (by have := HL.out; omega)) HL.out (fun v hv => by have := HR1.out v hv; omega) rfl (by decide +kernel) (by decide) (by decide) HCO.out).mono ?_; rintro e w5 ⟨A2, c2, rfl, g0, g1, g2⟩; have HI5 := Aside0.mk (show PInv w w5 w1.heap.size _ from ⟨⟨(g2.block _ (blk_lt HIr.out.pp.1) (past_ne HIr.out.pp HN.out.cq)).trans HIr.out.pp.1, HIr.out.pp.2⟩, g2.below HIr.out.be (below_size HIr.out.be) HN.out.gq, HIr.out.ge⟩); have HOW := Aside0.mk g0; clear g0 g1 g2) | (go_at_call 21; refine (same_call A2 A1 c2 c1 i i x _ HX1.out.1 HX1.out.1 (own_reads' HOW.out) (own_cap HOW.out) (reads_C (by rw [HX1.out.1]; exact HX1.out.below HI5.out.be)) HC.out (by rw [HX1.out.1]; have := HL.out; omega)).mono ?_; rintro e w6 ⟨rfl, g2⟩; have HI6 := Aside0.mk (HI5.out.later g2.below); clear g2) | (go_at_call 23; refine (pitch_Hunter_Reset.calls w1.heap.size _ _ HI6.out.pp).mono ?_; rintro e w7 ⟨rfl, g1, g2⟩; have HI7 := Aside0.mk (HI6.out.feed g1 g2); clear g1 g2) | (go_at_call 15; refine (pitch_Hunter_Feed.calls w1.heap.size (some ⟨w7.heap.size, 0, none⟩) 100 100 (List.replicate 79 0) (List.replicate 100 0) (List.replicate 179 0) 0 50 _ (HI7.out.later (below_alloc (Below.refl _ _) _)).pp (blk_reads (by rw [blk_new, made_nums]) (by simp) (by decide)) (by decide) (i16_zeros 100) (by simp) (str_zeros 179 100)).mono ?_; rintro e w8 ⟨rfl, g1, g2⟩; have HI8 := Aside0.mk (show PInv w w8 w1.heap.size (List.replicate 79 0) from (HI7.out.later (below_alloc (Below.refl _ _) _)).feed (by simpa using g1) g2); clear g1 g2))
        go_ret
        exact ⟨rfl, (HI8.out.later (below_alloc (Below.refl _ _) _)).be⟩
      · by_cases hb : 79 < n0
        · have d0 : decide ((n0 : Int) < 16) = false := decide_eq_false (by omega)
          have d1 : decide (n0 < 16) = false := decide_eq_false ha
          have d2 : decide ((79 : Int) < (n0 : Int)) = true := decide_eq_true (by omega)
          have d3 : decide (79 < n0) = true := decide_eq_true hb
          clear ha hb
          go_wp2_with (first | (go_at_call 18; refine (pitch_Comb_Feed.calls w2.heap.size (some ⟨w4.heap.size, 0, none⟩) i i 0 0 (List.replicate 79 0) x (List.replicate 79 0 ++ x) x _ HN.out.cq (blk_reads HXX.out HX1.out.1 (by have := HL.out; omega)) HL.out (fun v hv => by have := HR1.out v hv; omega) rfl (by decide +kernel) (by decide) (by decide) HCO.out).mono ?_; rintro e w5 ⟨A2, c2, rfl, g0, g1, g2⟩; have HI5 := Aside0.mk (show PInv w w5 w1.heap.size _ from ⟨⟨(g2.block _ (blk_lt HIr.out.pp.1) (past_ne HIr.out.pp HN.out.cq)).trans HIr.out.pp.1, HIr.out.pp.2⟩, g2.below HIr.out.be (below_size HIr.out.be) HN.out.gq, HIr.out.ge⟩); have HOW := Aside0.mk g0; clear g0 g1 g2) | (go_at_call 21; refine (same_call A2 A1 c2 c1 i i x _ HX1.out.1 HX1.out.1 (own_reads' HOW.out) (own_cap HOW.out) (reads_C (by rw [HX1.out.1]; exact HX1.out.below HI5.out.be)) HC.out (by rw [HX1.out.1]; have := HL.out; omega)).mono ?_; rintro e w6 ⟨rfl, g2⟩; have HI6 := Aside0.mk (HI5.out.later g2.below); clear g2) | (go_at_call 23; refine (pitch_Hunter_Reset.calls w1.heap.size _ _ HI6.out.pp).mono ?_; rintro e w7 ⟨rfl, g1, g2⟩; have HI7 := Aside0.mk (HI6.out.feed g1 g2); clear g1 g2) | (go_at_call 15; refine (pitch_Hunter_Feed.calls w1.heap.size (some ⟨w7.heap.size, 0, none⟩) 100 100 (List.replicate 79 0) (List.replicate 100 0) (List.replicate 179 0) 0 50 _ (HI7.out.later (below_alloc (Below.refl _ _) _)).pp (blk_reads (by rw [blk_new, made_nums]) (by simp) (by decide)) (by decide) (i16_zeros 100) (by simp) (str_zeros 179 100)).mono ?_; rintro e w8 ⟨rfl, g1, g2⟩; have HI8 := Aside0.mk (show PInv w w8 w1.heap.size (List.replicate 79 0) from (HI7.out.later (below_alloc (Below.refl _ _) _)).feed (by simpa using g1) g2); clear g1 g2))
          go_ret
          exact ⟨rfl, (HI8.out.later (below_alloc (Below.refl _ _) _)).be⟩
        · have d0 : decide ((n0 : Int) < 16) = false := decide_eq_false (by omega)
          have d1 : decide (n0 < 16) = false := decide_eq_false ha
          have d2 : decide ((79 : Int) < (n0 : Int)) = false := decide_eq_false (by omega)
          have d3 : decide (79 < n0) = false := decide_eq_false hb
          have HD := Aside0.mk (show 16 ≤ n0 ∧ n0 ≤ 79 from by omega)
          clear ha hb
          go_wp2_with (first | (go_at_call 18; refine (pitch_Comb_Feed.calls w2.heap.size (some ⟨w4.heap.size, 0, none⟩) i i 0 0 (List.replicate 79 0) x (List.replicate 79 0 ++ x) x _ HN.out.cq (blk_reads HXX.out HX1.out.1 (by have := HL.out; omega)) HL.out (fun v hv => by have := HR1.out v hv; omega) rfl (by decide +kernel) (by decide) (by decide) HCO.out).mono ?_; rintro e w5 ⟨A2, c2, rfl, g0, g1, g2⟩; have HI5 := Aside0.mk (show PInv w w5 w1.heap.size _ from ⟨⟨(g2.block _ (blk_lt HIr.out.pp.1) (past_ne HIr.out.pp HN.out.cq)).trans HIr.out.pp.1, HIr.out.pp.2⟩, g2.below HIr.out.be (below_size HIr.out.be) HN.out.gq, HIr.out.ge⟩); have HOW := Aside0.mk g0; clear g0 g1 g2) | (go_at_call 21; refine (same_call A2 A1 c2 c1 i i x _ HX1.out.1 HX1.out.1 (own_reads' HOW.out) (own_cap HOW.out) (reads_C (by rw [HX1.out.1]; exact HX1.out.below HI5.out.be)) HC.out (by rw [HX1.out.1]; have := HL.out; omega)).mono ?_; rintro e w6 ⟨rfl, g2⟩; have HI6 := Aside0.mk (HI5.out.later g2.below); clear g2) | (go_at_call 23; refine (pitch_Hunter_Reset.calls w1.heap.size _ _ HI6.out.pp).mono ?_; rintro e w7 ⟨rfl, g1, g2⟩; have HI7 := Aside0.mk (HI6.out.feed g1 g2); clear g1 g2) | (go_at_call 15; refine (pitch_Hunter_Feed.calls w1.heap.size (some ⟨w7.heap.size, 0, none⟩) 100 100 (List.replicate 79 0) (List.replicate 100 0) (List.replicate 179 0) 0 50 _ (HI7.out.later (below_alloc (Below.refl _ _) _)).pp (blk_reads (by rw [blk_new, made_nums]) (by simp) (by decide)) (by decide) (i16_zeros 100) (by simp) (str_zeros 179 100)).mono ?_; rintro e w8 ⟨rfl, g1, g2⟩; have HI8 := Aside0.mk (show PInv w w8 w1.heap.size (List.replicate 79 0) from (HI7.out.later (below_alloc (Below.refl _ _) _)).feed (by simpa using g1) g2); clear g1 g2))
          have HI9 := Aside0.mk (HI8.out.later (below_alloc (Below.refl _ _) (.cells #[.int .i64 0, .int .i64 0] 29)))
          go_loopg [13, 14] n0 (fun kq v13 v14 wx => ∃ (j : Nat) (b : Bool), v14 = .int .i64 j ∧ v13 = .bool b ∧ Aside0 (kq + j = n0) ∧ Aside0 (PInv w wx w1.heap.size (List.replicate 79 0)) ∧ Aside0 (b = true → ∃ i, i < j ∧ l.getD i 0 ≠ 0))
          case atStart => exact ⟨0, false, rfl, rfl, ⟨rfl⟩, HI9, ⟨fun h => by cases h⟩⟩
          case round =>
            clear HI9 HI8
            obtain ⟨j, b, rfl, rfl, HK2, HP, HB⟩ := hrel
            by_cases hj : j < n0
            · have q0 : decide ((j : Int) < (n0 : Int)) = true := decide_eq_true (by omega)
              have q1 : decide (j < n0) = true := decide_eq_true hj
              have q2 : ((j : Int) < (n0 : Int)) = True := eq_true (by omega)
              obtain ⟨ad, eA, hcell⟩ := HX0.out.2.2 (by omega)
              obtain ⟨y, hy⟩ : ∃ y, y = l.getD j 0 := ⟨_, rfl⟩
              have hx0 := hcell j hj
              rw [← hy] at hx0
              have hx1 := (HP.out.be.cell (World.block_lt_of_cell? w _ hx0)).trans hx0
              subst eA
              have HY := Aside0.mk hy
              have HJJ := Aside0.mk hj
              clear hx0 hcell hy hj
              cases b with
              | true =>
                go_wp2
                go_roundg (gk - 1)
                case rel => exact ⟨j + 1, true, by rw [wrap64_nat1 (by have := HD.out; have := HJJ.out; omega)], rfl, ⟨by have := HK2.out; have := HJJ.out; omega⟩, HP, ⟨fun _ => by obtain ⟨i, h1, h2⟩ := HB.out (by first | rfl | trivial); exact ⟨i, by omega, h2⟩⟩⟩
                case measure => have := HK2.out; have := HJJ.out; omega
              | false =>
                by_cases h1 : 200 < y
                · have e1 : decide (200 < y) = true := decide_eq_true h1
                  have HN1 := Aside0.mk (show l.getD j 0 ≠ 0 from by rw [← HY.out]; omega)
                  clear h1
                  go_wp2
                  go_roundg (gk - 1)
                  case rel => exact ⟨j + 1, true, by rw [wrap64_nat1 (by have := HD.out; have := HJJ.out; omega)], rfl, ⟨by have := HK2.out; have := HJJ.out; omega⟩, HP, ⟨fun _ => ⟨j, by omega, HN1.out⟩⟩⟩
                  case measure => have := HK2.out; have := HJJ.out; omega
                · have e1 : decide (200 < y) = false := decide_eq_false h1
                  by_cases h2 : y < -200
                  · have e2 : decide (y < -200) = true := decide_eq_true h2
                    have HN1 := Aside0.mk (show l.getD j 0 ≠ 0 from by rw [← HY.out]; omega)
                    clear h1 h2
                    go_wp2
                    go_roundg (gk - 1)
                    case rel => exact ⟨j + 1, true, by rw [wrap64_nat1 (by have := HD.out; have := HJJ.out; omega)], rfl, ⟨by have := HK2.out; have := HJJ.out; omega⟩, HP, ⟨fun _ => ⟨j, by omega, HN1.out⟩⟩⟩
                    case measure => have := HK2.out; have := HJJ.out; omega
                  · have e2 : decide (y < -200) = false := decide_eq_false h2
                    clear h1 h2
                    go_wp2
                    go_roundg (gk - 1)
                    case rel => exact ⟨j + 1, false, by rw [wrap64_nat1 (by have := HD.out; have := HJJ.out; omega)], rfl, ⟨by have := HK2.out; have := HJJ.out; omega⟩, HP, ⟨fun h => by cases h⟩⟩
                    case measure => have := HK2.out; have := HJJ.out; omega
            · have q0 : decide ((j : Int) < (n0 : Int)) = false := decide_eq_false (by omega)
              have q1 : decide (j < n0) = false := decide_eq_false hj
              cases b with
              | false =>
                clear hj
                go_wp2
                go_ret
                exact ⟨rfl, HP.out.be⟩
              | true =>
                obtain ⟨ib, hib0, hib⟩ := HB.out (by first | rfl | trivial)
                have HBIG := Aside0.mk (show ∃ i, i < l.length ∧ l.getD i 0 ≠ 0 from ⟨ib, by rw [HX0.out.1]; have := HK2.out; omega, hib⟩)
                clear hj hib0 hib
                go_wp2
                go_loopg [15] 120 (fun kq v15 wx => ∃ (j : Nat) (Ag : Option Addr) (cg : Nat), v15 = .slice Ag j cg ∧ Aside0 (kq + j = 120) ∧ Aside0 (PInv w wx w1.heap.size (List.replicate 79 0)) ∧ Aside0 (wx.ownsRow w.heap.size 33 1 (.slice Ag j cg) j (nums .i16 (againL l j))))
                case atStart => exact ⟨0, none, 0, rfl, ⟨rfl⟩, HP, ⟨own_nil _ _ _ _⟩⟩
                case round =>
                  clear HP HB
                  obtain ⟨j, Ag, cg, rfl, HK3, HP, HO⟩ := hrel
                  by_cases hj : j < 120
                  · have q0 : decide ((j : Int) < 120) = true := decide_eq_true (by omega)
                    have q1 : decide (j < 120) = true := decide_eq_true hj
                    have hmod : j % n0 < n0 := Nat.mod_lt _ (by have := HD.out; omega)
                    obtain ⟨r, hr⟩ : ∃ r, r = j % n0 := ⟨_, rfl⟩
                    rw [← hr] at hmod
                    obtain ⟨ad, eA, hcell⟩ := HX0.out.2.2 (by omega)
                    obtain ⟨y, hy⟩ : ∃ y, y = l.getD r 0 := ⟨_, rfl⟩
                    have hx0 := hcell r hmod
                    rw [← hy] at hx0
                    have hx1 := (HP.out.be.cell (World.block_lt_of_cell? w _ hx0)).trans hx0
                    subst eA
                    have HY := Aside0.mk (show y = over l j from by rw [hy, hr, over, HX0.out.1])
                    have HJJ := Aside0.mk hj
                    have hm1 : Int.tmod (j : Int) (n0 : Int) = (r : Int) := by rw [hr, Int.tmod_eq_emod_of_nonneg (by omega)]; omega
                    have hm2 : (j : Int) % (n0 : Int) = (r : Int) := by rw [hr]; omega
                    have hz : ((n0 : Int) == 0) = false := by have := HD.out; simp; omega
                    have hr0 : (r : Int) < (n0 : Int) := by omega
                    have HRR := Aside0.mk hmod
                    clear hx0 hcell hy hj hmod hr
                    go_wp2_with (first | (at_builtin; refine print_append_num (w0 := w) (W := wr) w.heap.size rfl (.tmp 110) (.tmp 119) 27 33 .i16 2 rfl Try.underlying27 info33 (by decide) (.slice Ag j cg) (againL l j) y rfl rfl (by rw [againL_length]; exact HO.out) HP.out.be (below_size HP.out.be) (by rw [againL_length]; have := HJJ.out; omega) ?_; intro v1 w5 ga gb gc gd; rw [HY.out, ← againL_succ, againL_length] at ga; obtain ⟨An, cn, eN⟩ := own_slice ga; subst eN; have HO5 := Aside0.mk ga; have HP5 := Aside0.mk (show PInv w w5 w1.heap.size (List.replicate 79 0) from ⟨⟨(gc.block _ (blk_lt HP.out.pp.1) (own_ne HO.out HP.out.pp.1 (by decide))).trans HP.out.pp.1, HP.out.pp.2⟩, gb, HP.out.ge⟩); clear ga gb gc gd))
                    go_roundg (gk - 1)
                    case rel => exact ⟨j + 1, _, _, rfl, ⟨by have := HK3.out; have := HJJ.out; omega⟩, HP5, HO5⟩
                    case measure => have := HK3.out; have := HJJ.out; omega
                  · obtain rfl : j = 120 := by have := HK3.out; omega
                    obtain ⟨T, hT⟩ : ∃ T : Nat, T = 120 / n0 * n0 := ⟨_, rfl⟩
                    have HT := Aside0.mk hT
                    have hTb : n0 ≤ T ∧ T ≤ 120 := by
                      have h1 := HD.out
                      have h2 : 1 ≤ 120 / n0 := Nat.div_pos (by omega) (by omega)
                      have h3 : 1 * n0 ≤ 120 / n0 * n0 := Nat.mul_le_mul_right _ h2
                      have h4 : 120 / n0 * n0 ≤ 120 := Nat.div_mul_le_self 120 n0
                      omega
                    have HTB := Aside0.mk hTb
                    obtain ⟨E, hE⟩ : ∃ E : Nat, E = 120 / n0 := ⟨_, rfl⟩
                    have hE2 : E ≤ 120 := by rw [hE]; exact Nat.div_le_self 120 n0
                    have hq1 : Int.tdiv (120 : Int) (n0 : Int) = (E : Int) := by rw [hE, Int.tdiv_eq_ediv_of_nonneg (by omega)]; rfl
                    have hq2 : (120 : Int) / (n0 : Int) = (E : Int) := by rw [hE]; rfl
                    have hq3 : (E : Int) * (n0 : Int) = (T : Int) := by rw [hT, hE]; rfl
                    have hq4 : wrap64 (T : Int) = (T : Int) := by unfold wrap64; omega
                    have hq5 : wrap64 (E : Int) = (E : Int) := by unfold wrap64; omega
                    have hz : ((n0 : Int) == 0) = false := by have := HD.out; simp; omega
                    clear hj hT hTb hE hE2
                    obtain ⟨R, hR⟩ : ∃ R, R = againL l T := ⟨_, rfl⟩
                    have hRl : R.length = T := by rw [hR, againL_length]
                    have hRr : ∀ v ∈ R, -32768 ≤ v ∧ v ≤ 32767 := by
                      rw [hR]; intro v hv
                      obtain ⟨q, _, rfl⟩ := List.mem_map.1 hv
                      unfold over
                      rw [List.getD_eq_getElem?_getD]
                      cases h : l[q % l.length]? with
                      | none => exact ⟨by decide, by decide⟩
                      | some u => exact HR0.out u (List.mem_of_getElem? h)
                    have HRE := Aside0.mk hR
                    have HRL := Aside0.mk hRl
                    have HRR := Aside0.mk hRr
                    have HP0 := Aside0.mk (show PInv w wr w1.heap.size (lasts []) from by rw [lasts_nil]; exact HP.out)
                    have hcut : ∀ W : World, (Instr.slice 27 (.slice Ag 120 cg) none (some (.int .i64 (T : Int))) none).run Try.prog W = .ok (.slice Ag T cg) W := fun W => by
                      obtain ⟨i0, hi0, _⟩ := Option.map_eq_some_iff.1 info33
                      have := cut_to 27 33 .i64 Try.underlying27 hi0 Ag 120 cg T (by omega) (by have := HTB.out; omega) (own_cap HO.out) W
                      rw [Int.toNat_natCast] at this; exact this
                    have hT3 : ∃ m, 1 ≤ m ∧ T = m * l.length := ⟨120 / n0, Nat.div_pos (by have := HD.out; omega) (by have := HD.out; omega), by rw [HT.out, HX0.out.1]⟩
                    obtain ⟨m, hm1, hm2⟩ := hT3
                    have HM := Aside0.mk (show 1 ≤ m ∧ T = m * l.length from ⟨hm1, hm2⟩)
                    obtain ⟨s2, k2, hs2, _⟩ := Hunt_is (A := []) (x := R) hRl HTB.out.2 (by have := HTB.out; simp; omega) (hist_range (fun v h => by cases h) hRr)
                    have HS2 := Aside0.mk hs2
                    obtain ⟨g2, hg2⟩ : ∃ g, g = if s2 = 0 then 0 else (pbest (lasts [] ++ R) T 63).1 := ⟨_, rfl⟩
                    have HG2 := Aside0.mk hg2
                    clear hR hRl hRr hm1 hm2 hs2 hg2
                    have tok1 : True := trivial
                    have tok2 : 1 = 1 := rfl
                    have tok3 : 2 = 2 := rfl
                    have hn0 : ¬ n0 = 0 := by have := HD.out; omega
                    by_cases h79 : T < 79
                    · have e0 : decide ((T : Int) < 79) = true := decide_eq_true (by omega)
                      have e1 : decide (T < 79) = true := decide_eq_true h79
                      obtain ⟨s3, k3, hs3, _⟩ := Hunt_is (A := R) (x := R) HRL.out HTB.out.2 (by have h1_ := HTB.out; have h2_ := HRL.out; omega) (hist_range HRR.out HRR.out)
                      have HS3 := Aside0.mk hs3
                      obtain ⟨g3, hg3⟩ : ∃ g, g = if s3 = 0 then 0 else (pbest (lasts R ++ R) T 63).1 := ⟨_, rfl⟩
                      have HG3 := Aside0.mk hg3
                      obtain ⟨s4, k4, hs4, _⟩ := Hunt_is (A := R ++ R) (x := R) HRL.out HTB.out.2 (by have h1_ := HTB.out; have h2_ := HRL.out; rw [List.length_append]; omega) (hist_range (fun v hv => (List.mem_append.1 hv).elim (HRR.out v) (HRR.out v)) HRR.out)
                      have h43 : s4 = 3 := again_strong (A := R ++ R) (x := R) (m := m) (t := 2 * m) (by rw [HX0.out.1]; exact HD.out.1) (by rw [HX0.out.1]; exact HD.out.2) HM.out.2 HTB.out.2 (by rw [List.length_append, HRL.out, HM.out.2, Nat.mul_assoc, Nat.two_mul]) (by rw [List.length_append, HRL.out]; exact two_turns HD.out HT.out h79) (by have h1_ := HTB.out; have h2_ := HRL.out; rw [List.length_append]; omega) HRL.out (over_hist HRE.out HRL.out HM.out.2 2 (R ++ R) (by simp [List.replicate_succ])) (hist_range (fun v hv => (List.mem_append.1 hv).elim (HRR.out v) (HRR.out v)) HRR.out) HBIG.out HM.out.1 hs4
                      subst h43
                      have HS4 := Aside0.mk hs4
                      obtain ⟨g4, hg4⟩ : ∃ g, g = (pbest (lasts (R ++ R) ++ R) T 63).1 := ⟨_, rfl⟩
                      have HG4 := Aside0.mk (show g4 = if (3 : Int) = 0 then 0 else (pbest (lasts (R ++ R) ++ R) T 63).1 from by rw [if_neg (by decide)]; exact hg4)
                      have hgr := pbest_lag (lasts (R ++ R) ++ R) T 63
                      rw [← hg4] at hgr
                      have f0 : decide (16 ≤ g4) = true := decide_eq_true hgr.1
                      have f1 : decide (g4 ≤ 79) = true := decide_eq_true (by have := hgr.2; omega)
                      clear h79 hs3 hg3 hs4 hg4 hgr
                      go_wp2_with (first | (go_at_call 15; have _t := tok1; refine (pitch_Hunter_Feed.lag w1.heap.size Ag T cg (lasts []) R (lasts [] ++ R) g2 s2 k2 _ HP0.out.pp (again_reads HRE.out HO.out HTB.out.2) HTB.out.2 HRR.out rfl HG2.out HS2.out).mono ?_; rintro e w11 ⟨rfl, ga, gb⟩; rw [lasts_next' [] R HRL.out] at ga; have HP2 := Aside0.mk (HP0.out.feed ga gb); have HO2 := Aside0.mk (own_only HO.out HP0.out.pp gb); clear _t tok1 ga gb) | (go_at_call 15; have _t := tok2; refine (pitch_Hunter_Feed.lag w1.heap.size Ag T cg (lasts R) R (lasts R ++ R) g3 s3 k3 _ HP2.out.pp (again_reads HRE.out HO2.out HTB.out.2) HTB.out.2 HRR.out rfl HG3.out HS3.out).mono ?_; rintro e w12 ⟨rfl, ga, gb⟩; rw [lasts_next' R R HRL.out] at ga; have HP3 := Aside0.mk (HP2.out.feed ga gb); have HO3 := Aside0.mk (own_only HO2.out HP2.out.pp gb); clear _t tok2 ga gb) | (go_at_call 15; have _t := tok3; refine (pitch_Hunter_Feed.lag w1.heap.size Ag T cg (lasts (R ++ R)) R (lasts (R ++ R) ++ R) g4 3 k4 _ HP3.out.pp (again_reads HRE.out HO3.out HTB.out.2) HTB.out.2 HRR.out rfl HG4.out HS4.out).mono ?_; rintro e w13 ⟨rfl, ga, gb⟩; rw [lasts_next' (R ++ R) R HRL.out] at ga; have HP4 := Aside0.mk (HP3.out.feed ga gb); have HO4 := Aside0.mk (own_only HO3.out HP3.out.pp gb); clear _t tok3 ga gb))
                      repeat (go_quiet (fail); try go_wp2)
                      go_ret
                      exact ⟨rfl, (HP4.out.later (below_alloc (Below.refl _ _) _)).be⟩
                    · have e0 : decide ((T : Int) < 79) = false := decide_eq_false (by omega)
                      have e1 : decide (T < 79) = false := decide_eq_false h79
                      obtain ⟨s4, k4, hs4, _⟩ := Hunt_is (A := R) (x := R) HRL.out HTB.out.2 (by have h1_ := HTB.out; have h2_ := HRL.out; omega) (hist_range HRR.out HRR.out)
                      have h43 : s4 = 3 := again_strong (A := R) (x := R) (m := m) (t := m) (by rw [HX0.out.1]; exact HD.out.1) (by rw [HX0.out.1]; exact HD.out.2) HM.out.2 HTB.out.2 (by rw [HRL.out, HM.out.2]) (by rw [HRL.out]; omega) (by have h1_ := HTB.out; have h2_ := HRL.out; omega) HRL.out (over_hist HRE.out HRL.out HM.out.2 1 R (by simp)) (hist_range HRR.out HRR.out) HBIG.out HM.out.1 hs4
                      subst h43
                      have HS4 := Aside0.mk hs4
                      obtain ⟨g4, hg4⟩ : ∃ g, g = (pbest (lasts R ++ R) T 63).1 := ⟨_, rfl⟩
                      have HG4 := Aside0.mk (show g4 = if (3 : Int) = 0 then 0 else (pbest (lasts R ++ R) T 63).1 from by rw [if_neg (by decide)]; exact hg4)
                      have hgr := pbest_lag (lasts R ++ R) T 63
                      rw [← hg4] at hgr
                      have f0 : decide (16 ≤ g4) = true := decide_eq_true hgr.1
                      have f1 : decide (g4 ≤ 79) = true := decide_eq_true (by have := hgr.2; omega)
                      clear h79 hs4 hg4 hgr
                      go_wp2_with (first | (go_at_call 15; have _t := tok1; refine (pitch_Hunter_Feed.lag w1.heap.size Ag T cg (lasts []) R (lasts [] ++ R) g2 s2 k2 _ HP0.out.pp (again_reads HRE.out HO.out HTB.out.2) HTB.out.2 HRR.out rfl HG2.out HS2.out).mono ?_; rintro e w11 ⟨rfl, ga, gb⟩; rw [lasts_next' [] R HRL.out] at ga; have HP2 := Aside0.mk (HP0.out.feed ga gb); have HO2 := Aside0.mk (own_only HO.out HP0.out.pp gb); clear _t tok1 ga gb) | (go_at_call 15; have _t := tok2; refine (pitch_Hunter_Feed.lag w1.heap.size Ag T cg (lasts R) R (lasts R ++ R) g4 3 k4 _ HP2.out.pp (again_reads HRE.out HO2.out HTB.out.2) HTB.out.2 HRR.out rfl HG4.out HS4.out).mono ?_; rintro e w13 ⟨rfl, ga, gb⟩; rw [lasts_next' R R HRL.out] at ga; have HP4 := Aside0.mk (HP2.out.feed ga gb); have HO4 := Aside0.mk (own_only HO2.out HP2.out.pp gb); clear _t tok2 ga gb))
                      repeat (go_quiet (fail); try go_wp2)
                      go_ret
                      exact ⟨rfl, (HP4.out.later (below_alloc (Below.refl _ _) _)).be⟩
theorem psalterylaw18_PitchAgain.calls (A0 A1 : Option Addr) (c0 n0 c1 n1 : Nat) (l x : List Int) (w : World) (hc : n1 ≤ c1)
    (h0 : ReadsInt w .i16 A0 n0 l) (hr0 : ∀ v ∈ l, -32768 ≤ v ∧ v ≤ 32767) (h1 : ReadsInt w .i16 A1 n1 x) (hr1 : ∀ v ∈ x, -32768 ≤ v ∧ v ≤ 32767) :
    Calls Try.prog 5 #[.slice A0 n0 c0, .slice A1 n1 c1] w fun e w' => e = .returned (.bool true) ∧ Below w.heap.size w w' := by
  by_cases hl : 120 < n1
  · exact psalterylaw18_PitchAgain.long A0 A1 c0 n0 c1 n1 w hl
  · exact psalterylaw18_PitchAgain.walk A0 A1 c0 n0 c1 n1 l x w (by omega) hc h0 hr0 h1 hr1
end Go.Proofs.Ytblehkoonajofaa.PPitch
