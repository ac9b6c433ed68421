/- Pitch: the comb's call. -/
import Derived.Test.YtblehkoonajofaaPitchBeside
import Derived.Test.YtblehkoonajofaaFixBasePitch
namespace Go.Proofs.Ytblehkoonajofaa.PPitch
open Go.RowKit Go.Proofs.YtblehkoonajofaaW.PrintWords Go.Proofs.YtblehkoonajofaaW.PrintLast Go.Proofs.YtblehkoonajofaaW.PrintMore
open Go.Proofs.Ytblehkoonajofaa.Num (rnd sat16 sat32 clip)
attribute [local go_sem] max2_int min2_int max_two min_two max_three min_three max_four min_four   -- for this text's walks alone
set_option linter.unusedVariables false
set_option linter.unusedSimpArgs false
/-- What the comb makes of one number a, with b a lag ahead, G its strength. -/
def combOne (a b G : Int) : Int := wrap64 (wrap64 (a * wrap64 (32768 - G)) + wrap64 (b * G))
def combL (all : List Int) (lag G : Int) (n : Nat) : List Int := (List.range n).map fun (i : Nat) => sat16 (rnd (combOne (rd all (79 + (i : Int))) (rd all (79 + (i : Int) - lag)) G) 15)
theorem combL_length (all : List Int) (lag G : Int) (n : Nat) : (combL all lag G n).length = n := by simp [combL]
theorem combL_at (all : List Int) (lag G : Int) {n i : Nat} (h : i < n) : (combL all lag G n).getD i 0 = sat16 (rnd (combOne (rd all (79 + (i : Int))) (rd all (79 + (i : Int) - lag)) G) 15) := by
  rw [List.getD_eq_getElem?_getD, combL, List.getElem?_map, List.getElem?_range h]; rfl
theorem wrap64_range (n : Int) : -9223372036854775808 ≤ wrap64 n ∧ wrap64 n ≤ 9223372036854775807 := by unfold wrap64; omega
/-- What stands in memory while the comb combs. -/
structure CInv (w wx : World) (p gb gw : Nat) (lag st : Int) (A1 : Option Addr) (c1 : Nat) (P X all : List Int) : Prop where
  pp : Past wx p 95 P
  bx : wx.heap[gb]? = some (.cells #[.int .i64 lag, .int .i64 st] 29 (0, 0))
  wi : wx.heap[gw]? = some (.cells (nums .i64 X).toArray 2 (0, 0))
  al : wx.ownsRow w.heap.size 2 1 (.slice A1 all.length c1) all.length (nums .i64 all)
  be : Below w.heap.size w wx
theorem CInv.later {w wx wy : World} {p gb gw : Nat} {lag st : Int} {A1 : Option Addr} {c1 : Nat} {P X all : List Int} (h : CInv w wx p gb gw lag st A1 c1 P X all) (hb : Below wx.heap.size wx wy) : CInv w wy p gb gw lag st A1 c1 P X all :=
  ⟨⟨(hb.block p (blk_lt h.pp.1)).trans h.pp.1, h.pp.2⟩, (hb.block _ (blk_lt h.bx)).trans h.bx, (hb.block _ (blk_lt h.wi)).trans h.wi, h.al.kept (grown_of_below hb none) (by cases Value.ownBlock _ <;> simp), below_step h.be hb⟩
theorem CInv.set {w wx : World} {p gb gw go : Nat} {lag st : Int} {A1 : Option Addr} {c1 : Nat} {P X all : List Int} (h : CInv w wx p gb gw lag st A1 c1 P X all) {L : List Int} (ho : wx.heap[go]? = some (.cells (nums .i16 L).toArray 33 (0, 0))) (hg : w.heap.size ≤ go) (i : Nat) (v : Value) : CInv w (wx.setCell ⟨go, i, none⟩ v) p gb gw lag st A1 c1 P X all := by
  have n1 : p ≠ go := by intro e; subst e; have h1 := h.pp.1; rw [ho] at h1; simp at h1
  have n2 : gb ≠ go := by intro e; subst e; have h1 := h.bx; rw [ho] at h1; simp at h1
  have n3 : gw ≠ go := by intro e; subst e; have h1 := h.wi; rw [ho] at h1; simp at h1
  refine ⟨⟨(Below.heap_setCell _ _ _ _ n1).trans h.pp.1, h.pp.2⟩, (Below.heap_setCell _ _ _ _ n2).trans h.bx, (Below.heap_setCell _ _ _ _ n3).trans h.wi, own_setCell (p := ⟨go, i, none⟩) h.al (fun e => own_ne h.al ho (by decide) e) _, h.be.setCell hg _⟩
theorem own_of_blk {w : World} {base g n ty : Nat} {k : IntKind} {L : List Int} (hb : base ≤ g) (h : w.heap[g]? = some (.cells (nums k L).toArray ty (0, 0))) (hn : L.length = n) (hm : n ≤ maxLen) : w.ownsRow base ty 1 (.slice (some ⟨g, 0, none⟩) n n) n (nums k L) :=
  ⟨by rw [nums_length, hn, Nat.mul_one], .inr ⟨g, n, _, rfl, hb, h, Nat.le_refl _, hm, by simp [nums, hn], by simp [nums]; rw [List.take_of_length_le (by simp [hn])]⟩⟩
set_option maxHeartbeats 8000000 in
set_option maxRecDepth 100000 in
theorem pitch_Comb_Feed.calls (p : Nat) (A : Option Addr) (n c : Nat) (lag st : Int) (P x all O : List Int) (w : World) (hp : Past w p 95 P) (hx : ReadsInt w .i32 A n x) (hn : n ≤ 120) (hr : ∀ v ∈ x, -2147483648 ≤ v ∧ v ≤ 2147483647) (hall : all = P ++ x)
    (hck : pitch_Check.f lag st = some 0) (hlag : 0 ≤ lag ∧ lag ≤ 79) (hst : 0 ≤ st ∧ st ≤ 3) (hO : O = combL all lag (wrap64 (st * 4096)) n) :
    Calls Try.prog 18 #[.pointer (some ⟨p, 0, none⟩), .slice A n c, .agg #[.int .i64 lag, .int .i64 st]] w fun e w' => ∃ A1 c1, e = .returned (.tuple #[.slice A1 n c1, .int .i64 0]) ∧ w'.ownsRow w.heap.size 33 1 (.slice A1 n c1) n (nums .i16 O) ∧ Past w' p 95 (all.drop n) ∧ Only w w' p := by
  have hmk := print_make 26 2 .i64 8 Try.underlying26 info2 (by decide) n (by omega)
  have hmo := print_make 27 33 .i16 2 Try.underlying27 info33 (by decide) n (by omega)
  have t0 : decide ((120 : Int) < (n : Int)) = false := decide_eq_false (by omega)
  have t1 : decide (120 < n) = false := decide_eq_false (by omega)
  have HP := Aside0.mk hp
  have HX := Aside0.mk hx
  have HN := Aside0.mk hn
  have HR := Aside0.mk hr
  have HALL := Aside0.mk hall
  have HCK := Aside0.mk hck
  have HLA := Aside0.mk hlag
  have HO := Aside0.mk hO
  have hu29 := Try.underlying29
  clear hp hx hn hr hall hck hlag hst hO
  go_enter Try.func18, Try.ntmps18
  go_wp2_with (first | (go_at_call 20; refine (pitch_Check.calls lag st 0 _ HCK.out).mono ?_; rintro e w1 ⟨rfl, hb1⟩; have HB1 := Aside0.mk (below_step (below_alloc (Below.refl w.heap.size w) (.cells #[.int .i64 lag, .int .i64 st] 29)) hb1); have HBX := Aside0.mk ((hb1.block _ (blk_lt (blk_new w (.cells #[.int .i64 lag, .int .i64 st] 29)))).trans (blk_new w _)); clear hb1))
  go_loopg [9, 10, 32] n (fun kq v9 v10 v32 wx => ∃ i : Nat, v32 = .int .i64 i ∧ Aside0 (kq + i = n) ∧ Aside0 (wx.heap[w.heap.size]? = some (.cells #[.int .i64 lag, .int .i64 st] 29 (0, 0))) ∧ Aside0 (wx.heap[w1.heap.size]? = some (.cells (nums .i64 (x.take i ++ List.replicate (n - i) 0)).toArray 2 (0, 0))) ∧ Aside0 (Below w.heap.size w wx))
  case atStart => exact ⟨0, rfl, ⟨rfl⟩, ⟨((below_alloc (Below.refl _ _) _).block _ (blk_lt HBX.out)).trans HBX.out⟩, ⟨by rw [blk_new, made_nums]; rfl⟩, ⟨below_alloc HB1.out _⟩⟩
  case round =>
    obtain ⟨i, rfl, HI, H4, HW, HB⟩ := hrel
    have hge := below_size HB1.out
    have HGE := Aside0.mk hge
    by_cases hi : i < n
    · have b0 : decide ((i : Int) < (n : Int)) = true := decide_eq_true (by omega)
      have b1 : decide (i < n) = true := decide_eq_true hi
      have b2 : ((i : Int) < (n : Int)) = True := eq_true (by omega)
      obtain ⟨ad, eA, hcell⟩ := HX.out.2.2 (by omega)
      obtain ⟨y, hy⟩ : ∃ y, y = x.getD i 0 := ⟨_, rfl⟩
      have hyr : -2147483648 ≤ y ∧ y ≤ 2147483647 := by rw [hy, List.getD_eq_getElem?_getD, List.getElem?_eq_getElem (by rw [HX.out.1]; omega)]; exact HR.out _ (List.getElem_mem _)
      have hyw : wrap64 y = y := by unfold wrap64; omega
      have hx0 := hcell i hi
      rw [← hy] at hx0
      have hx1 := (HB.out.cell (World.block_lt_of_cell? w _ hx0)).trans hx0
      subst eA
      have hc := nums_at HW.out (i := i) (by rw [List.length_append, List.length_take, List.length_replicate, HX.out.1]; omega)
      have hf : wr.frozen? ⟨w1.heap.size, i, none⟩ = false := blk_frozen HW.out i
      have HY := Aside0.mk hy
      have HII := Aside0.mk hi
      clear hx0 hcell hyr hy hi hge
      go_wp2
      go_roundg (gk - 1)
      case rel => exact ⟨i + 1, by rw [wrap64_nat1 (by have := HN.out; have := HII.out; omega)], ⟨by have := HI.out; have := HII.out; omega⟩, ⟨(Below.heap_setCell _ _ _ _ (by have := blk_lt HBX.out; dsimp; omega)).trans H4.out⟩, ⟨by rw [blk_store HW.out i y, HY.out, set_next HII.out HX.out.1]⟩, ⟨below_set HB.out HGE.out⟩⟩
      case measure => have := HI.out; have := HII.out; omega
    · have hin : i = n := by have := HI.out; omega
      subst hin
      have hwide : wr.heap[w1.heap.size]? = some (.cells (nums .i64 x).toArray 2 (0, 0)) := by
        rw [HW.out, Nat.sub_self, List.replicate_zero, List.append_nil, List.take_of_length_le (by rw [HX.out.1]; exact Nat.le_refl _)]
      have HWI := Aside0.mk hwide
      have HPr := Aside0.mk (show Past wr p 95 P from ⟨(HB.out.block p (blk_lt HP.out.1)).trans HP.out.1, HP.out.2⟩)
      have hal : all.length = i + 79 := by rw [HALL.out, List.length_append, HP.out.2, HX.out.1]; omega
      have HAL := Aside0.mk hal
      have c0 : wr.cell? ⟨w.heap.size, 0, none⟩ = some (.int .i64 lag) := by rw [blk_cell H4.out]; rfl
      have c1' : wr.cell? ⟨w.heap.size, 1, none⟩ = some (.int .i64 st) := by rw [blk_cell H4.out]; rfl
      clear hwide hal hi hge
      go_wp2_with (first | (go_at_call 47; refine (pitch_with.calls p 95 (some ⟨w1.heap.size, 0, none⟩) i i P x all HALL.out _ HPr.out (blk_reads HWI.out HX.out.1 (by have := HN.out; omega)) HN.out).mono ?_; rintro e w2 ⟨A1, c1, rfl, g1, g2⟩; have HI2 := Aside0.mk (show CInv w w2 p w.heap.size w1.heap.size lag st A1 c1 P x all from ⟨⟨(g2.block p (blk_lt HPr.out.1)).trans HPr.out.1, HPr.out.2⟩, (g2.block _ (blk_lt H4.out)).trans H4.out, (g2.block _ (blk_lt HWI.out)).trans HWI.out, own_lower g1 (below_size HB.out), below_step HB.out g2⟩); have k1 : w2.cell? ⟨w.heap.size, 1, none⟩ = some (.int .i64 st) := (by rw [blk_cell HI2.out.bx]; rfl); clear g1 g2))
      go_loopg [14, 15, 56] i (fun kq v14 v15 v56 wx => ∃ k : Nat, v56 = .int .i64 k ∧ Aside0 (kq + k = i) ∧ Aside0 (CInv w wx p w.heap.size w1.heap.size lag st A1 c1 P x all) ∧ Aside0 (wx.heap[w2.heap.size]? = some (.cells (nums .i16 (O.take k ++ List.replicate (i - k) 0)).toArray 33 (0, 0))))
      case atStart => exact ⟨0, rfl, ⟨rfl⟩, ⟨HI2.out.later (below_alloc (Below.refl _ _) _)⟩, ⟨by rw [blk_new, made_nums]; rfl⟩⟩
      case round =>
        clear HI k1
        obtain ⟨k, rfl, HK, HI3, HOUT⟩ := hrel
        have hge2 := below_size HI2.out.be
        have HGE2 := Aside0.mk hge2
        have HOL := Aside0.mk (show O.length = i from by rw [HO.out, combL_length])
        clear hge2
        by_cases hk : k < i
        · have b0 : decide ((k : Int) < (i : Int)) = true := decide_eq_true (by omega)
          have b1 : decide (k < i) = true := decide_eq_true hk
          have b2 : ((k : Int) < (i : Int)) = True := eq_true (by omega)
          obtain ⟨y, hy⟩ : ∃ y, y = x.getD k 0 := ⟨_, rfl⟩
          obtain ⟨z, hz⟩ : ∃ z, z = rd all (79 + (k : Int) - lag) := ⟨_, rfl⟩
          have hcy := nums_at HI3.out.wi (i := k) (by rw [HX.out.1]; exact hk)
          rw [← hy] at hcy
          obtain ⟨ad, eA, hcz⟩ := (own_reads' HI3.out.al).at_ (79 + (k : Int) - lag) (by have := HLA.out; omega) (by have := HLA.out; have := HAL.out; omega)
          rw [← hz] at hcz
          subst eA
          have s0 : wrap64 (79 + (k : Int) - lag) = 79 + (k : Int) - lag := by have := HLA.out; have := HN.out; unfold wrap64; omega
          have s1 : wrap64 (79 + (k : Int)) = 79 + (k : Int) := by have := HN.out; unfold wrap64; omega
          have l0 : 0 ≤ 79 + (k : Int) - lag := by have := HLA.out; omega
          have m0 : 79 + (k : Int) - lag < (all.length : Int) := by have := HLA.out; have := HAL.out; omega
          have c0 : wr.cell? ⟨w.heap.size, 0, none⟩ = some (.int .i64 lag) := by rw [blk_cell HI3.out.bx]; rfl
          have hyz : rd all (79 + (k : Int)) = y := by
            rw [hy, HALL.out, rd, show (79 + (k : Int)).toNat = 79 + k by omega, List.getD_eq_getElem?_getD, List.getElem?_append_right (by rw [HP.out.2]; omega), HP.out.2, Nat.add_sub_cancel_left, List.getD_eq_getElem?_getD]
          obtain ⟨r, hr⟩ : ∃ r, r = rnd (combOne y z (wrap64 (st * 4096))) 15 := ⟨_, rfl⟩
          have HRN := Aside0.mk (show fix_Round.f (combOne y z (wrap64 (st * 4096))) 15 = some r from by rw [hr]; exact Go.Proofs.Ytblehkoonajofaa.FixBasePitch.Round_eq 15 (wrap64_range _).1 (wrap64_range _).2)
          have HSA := Aside0.mk (show fix_Sat16.f r = some (sat16 r) from Go.Proofs.Ytblehkoonajofaa.FixBasePitch.Sat16_eq r)
          have HON := Aside0.mk (show O.getD k 0 = sat16 r from by rw [HO.out, combL_at all lag _ hk, hyz, ← hz, hr])
          have hoc := nums_at HOUT.out (i := k) (by rw [List.length_append, List.length_take, List.length_replicate, HOL.out]; omega)
          have hof : wr.frozen? ⟨w2.heap.size, k, none⟩ = false := blk_frozen HOUT.out k
          have HKK := Aside0.mk hk
          clear hy hz hr hk hyz
          go_wp2_with (first | (go_at_call 54; refine (fix_Round.calls (combOne y z (wrap64 (st * 4096))) 15 r _ HRN.out).mono ?_; rintro e w3 ⟨rfl, hd3⟩; obtain ⟨q3, hq3⟩ := hd3.out; have HQ3 := Aside0.mk hq3; clear hd3 hq3) | (go_at_call 53; refine (fix_Sat16.calls r (sat16 r) _ HSA.out).mono ?_; rintro e w4 ⟨rfl, hd4⟩; obtain ⟨q4, hq4⟩ := hd4.out; have HQ4 := Aside0.mk (show w4 = wr.drewN (q3 + q4) from by rw [hq4, HQ3.out, World.drewN_drewN]); have koc : w4.cell? ⟨w2.heap.size, k, none⟩ = some (.int .i16 ((O.take k ++ List.replicate (i - k) 0).getD k 0)) := (by rw [HQ4.out]; exact hoc); have kof : w4.frozen? ⟨w2.heap.size, k, none⟩ = false := (by rw [HQ4.out]; exact hof); clear hd4 hq4))
          go_roundg (gk - 1)
          case rel => exact ⟨k + 1, by rw [wrap64_nat1 (by have := HN.out; have := HKK.out; omega)], ⟨by have := HK.out; have := HKK.out; omega⟩, ⟨by rw [HQ4.out]; exact (HI3.out.later (pw_below_drewN (Below.refl _ _) _)).set (go := w2.heap.size) HOUT.out HGE2.out k _⟩, ⟨by rw [HQ4.out, ← HON.out]; exact (blk_store (w := wr.drewN (q3 + q4)) HOUT.out k _).trans (by rw [set_next HKK.out HOL.out])⟩⟩
          case measure => have := HK.out; have := HKK.out; omega
        · have hki : k = i := by have := HK.out; omega
          subst hki
          have hout : wr.heap[w2.heap.size]? = some (.cells (nums .i16 O).toArray 33 (0, 0)) := by
            rw [HOUT.out, Nat.sub_self, List.replicate_zero, List.append_nil, List.take_of_length_le (by rw [HOL.out]; exact Nat.le_refl _)]
          have HOT := Aside0.mk hout
          obtain ⟨Q, hQ⟩ : ∃ Q, Q = all.drop k := ⟨_, rfl⟩
          have HQ := Aside0.mk hQ
          clear hout hQ hk
          go_wp2_with (first | (go_at_call 50; refine (pitch_keep.calls p 95 A1 all.length c1 P all Q _ HI3.out.pp (own_reads' HI3.out.al) (own_cap HI3.out.al) (by have := HAL.out; omega) (by have h1_ := HAL.out; have h2_ := HN.out; omega) (by rw [HQ.out]; have := HAL.out; congr 1; omega)).mono ?_; rintro e w7 ⟨rfl, g1, g2⟩; have HP7 := Aside0.mk g1; have HO7 := Aside0.mk g2; clear g1 g2))
          go_ret2
          refine ⟨_, _, rfl, ?_, by rw [← HQ.out]; exact HP7.out, (Only.of_below HI3.out.be).trans HO7.out⟩
          have n1 : w2.heap.size ≠ p := by have h1_ := blk_lt HP.out.1; have h2_ := HGE2.out; omega
          exact own_of_blk HGE2.out ((HO7.out.block _ (blk_lt HOT.out) n1).trans HOT.out) HOL.out (by have := HN.out; unfold maxLen; omega)
theorem pitch_Comb_Feed.nil (A : Option Addr) (n c : Nat) (lag st : Int) (w : World) :
    Calls Try.prog 18 #[.pointer none, .slice A n c, .agg #[.int .i64 lag, .int .i64 st]] w fun e w' => e = .returned (.tuple #[.slice none 0 0, .int .i64 3]) ∧ Below w.heap.size w w' := by
  go_enter Try.func18, Try.ntmps18
  go_wp2
  go_ret2
  exact ⟨rfl, below_alloc (Below.refl _ _) _⟩
theorem pitch_Comb_Feed.long (p : Nat) (A : Option Addr) (n c : Nat) (lag st : Int) (w : World) (hn : 120 < n) :
    Calls Try.prog 18 #[.pointer (some ⟨p, 0, none⟩), .slice A n c, .agg #[.int .i64 lag, .int .i64 st]] w fun e w' => e = .returned (.tuple #[.slice none 0 0, .int .i64 2]) ∧ Below w.heap.size w w' := by
  have t0 : decide ((120 : Int) < (n : Int)) = true := decide_eq_true (by omega)
  have t1 : decide (120 < n) = true := decide_eq_true hn
  clear hn
  go_enter Try.func18, Try.ntmps18
  go_wp2
  go_ret2
  exact ⟨rfl, below_alloc (Below.refl _ _) _⟩
theorem pitch_Comb_Feed.bad (p : Nat) (A : Option Addr) (n c : Nat) (lag st : Int) (w : World) (hn : n ≤ 120) (hck : pitch_Check.f lag st = some 1) :
    Calls Try.prog 18 #[.pointer (some ⟨p, 0, none⟩), .slice A n c, .agg #[.int .i64 lag, .int .i64 st]] w fun e w' => e = .returned (.tuple #[.slice none 0 0, .int .i64 1]) ∧ Below w.heap.size w w' := by
  have t0 : decide ((120 : Int) < (n : Int)) = false := decide_eq_false (by omega)
  have t1 : decide (120 < n) = false := decide_eq_false (by omega)
  have hu29 := Try.underlying29
  have HCK := Aside0.mk hck
  clear hn hck
  go_enter Try.func18, Try.ntmps18
  go_wp2_with (first | (go_at_call 20; refine (pitch_Check.calls lag st 1 _ HCK.out).mono ?_; rintro e w1 ⟨rfl, hb1⟩; have HB1 := Aside0.mk (below_step (below_alloc (Below.refl w.heap.size w) (.cells #[.int .i64 lag, .int .i64 st] 29)) hb1); clear hb1))
  go_ret2
  exact ⟨rfl, HB1.out⟩
end Go.Proofs.Ytblehkoonajofaa.PPitch
