/- Pitch: the law PitchHunts walked. -/
import Derived.Test.YtblehkoonajofaaPitchAlive
import Derived.Test.YtblehkoonajofaaPitchPure
import Derived.StillTailTactics
namespace Go.Proofs.Ytblehkoonajofaa.PPitch
open Go.RowKit Go.Proofs.YtblehkoonajofaaW.PrintWords Go.Proofs.YtblehkoonajofaaW.PrintLast Go.Proofs.YtblehkoonajofaaW.PrintMore
attribute [local go_sem] max2_int min2_int max_two min_two max_three min_three max_four min_four   -- for this text's walks alone
set_option linter.unusedVariables false
set_option linter.unusedSimpArgs false
/-- What stands in memory while the law about the hunter goes on. -/
structure HInv (w wx : World) (p ty : Nat) (P : List Int) (v : Value) (L : List Int) : Prop where
  pp : Past wx p ty P
  al : wx.ownsRow w.heap.size 2 1 v L.length (nums .i64 L)
  be : Below w.heap.size w wx
  ge : w.heap.size ≤ p
namespace HInv
variable {w wx wy : World} {p ty : Nat} {P Q L M : List Int} {v u : Value}
theorem later (h : HInv w wx p ty P v L) (hb : Below wx.heap.size wx wy) : HInv w wy p ty P v L :=
  ⟨⟨(hb.block p (blk_lt h.pp.1)).trans h.pp.1, h.pp.2⟩, h.al.kept (grown_of_below hb none) (by cases v.ownBlock <;> simp), below_step h.be hb, h.ge⟩
theorem feed (hty : 2 ≠ ty) (h : HInv w wx p ty P v L) (g1 : Past wy p ty Q) (g2 : Only wx wy p) : HInv w wy p ty Q v L := by
  have hne := own_ne h.al h.pp.1 hty
  refine ⟨g1, own_move h.al fun b hb => g2.block b (own_lt h.al b hb) (by intro e; subst e; exact hne hb.symm), g2.below h.be (below_size h.be) h.ge, h.ge⟩
theorem grow (hty : 2 ≠ ty) (h : HInv w wx p ty P v L) {M : List Int} (g1 : wy.ownsRow w.heap.size 2 1 u M.length (nums .i64 M)) (g2 : Below w.heap.size w wy) (g3 : wx.grownBy wy v.ownBlock) : HInv w wy p ty P u M := by
  have hne := own_ne h.al h.pp.1 hty
  exact ⟨⟨(g3.block p (blk_lt h.pp.1) hne).trans h.pp.1, h.pp.2⟩, g1, g2, h.ge⟩
end HInv
theorem own_C {w : World} {base n c : Nat} {e : TypeId} {k : IntKind} {A : Option Addr} {xs : List Int} (h : w.ownsRow base e 1 (.slice A n c) xs.length (nums k xs)) : Kd.C (Kd.int k) w A xs.length xs := by
  have hr : Kd.R (Kd.int k) e w base (fun _ => True) (.slice A n c) xs := Kd.R_of_own h (fun _ _ => trivial)
  obtain ⟨A', c', e⟩ := Kd.R_slice hr
  cases e
  exact (Kd.R_reads' hr).2.2
theorem reads_below {w wx : World} {k : IntKind} {A : Option Addr} {n : Nat} {x : List Int} (h : ReadsInt w k A n x) (hb : Below w.heap.size w wx) : ReadsInt wx k A n x := h.below hb
theorem box_later {wx wy : World} {g : Nat} {o : Obj} (h : wx.heap[g]? = some o) (hb : Below wx.heap.size wx wy) : wy.heap[g]? = some o := (hb.block g (blk_lt h)).trans h
set_option maxHeartbeats 8000000 in
set_option maxRecDepth 100000 in
theorem psalterylaw18_PitchHunts.long (A0 : Option Addr) (c0 n0 : Nat) (w : World) (hl : 5 < n0) :
    Calls Try.prog 3 #[.slice A0 n0 c0] w fun e w' => e = .returned (.bool true) ∧ Below w.heap.size w w' := by
  have t0 : decide ((5 : Int) < (n0 : Int)) = true := decide_eq_true (by omega)
  have t1 : decide (5 < n0) = true := decide_eq_true hl
  clear hl
  go_enter Try.func3, Try.ntmps3
  go_wp2_with (first | (go_at_call 13; refine (psalterylaw18_alive.holds _).mono ?_; rintro e w1 ⟨rfl, g2⟩; have HB1 := Aside0.mk g2; clear g2))
  go_ret
  exact ⟨rfl, HB1.out⟩
set_option maxHeartbeats 8000000 in
set_option maxRecDepth 100000 in
theorem psalterylaw18_PitchHunts.walk (A0 : Option Addr) (c0 n0 : Nat) (w : World) (hl : n0 ≤ 5)
    (hrow : ∀ i : Nat, i < n0 → ∃ ad A c x, A0 = some ad ∧ w.cell? (ad.add i) = some (.slice A x.length c) ∧ ReadsInt w .i16 A x.length x ∧ ∀ v ∈ x, -32768 ≤ v ∧ v ≤ 32767) :
    Calls Try.prog 3 #[.slice A0 n0 c0] w fun e w' => e = .returned (.bool true) ∧ Below w.heap.size w w' := by
  have HR := Aside0.mk hrow
  have HL := Aside0.mk hl
  have hu29 := Try.underlying29
  have hu34 := Try.underlying34
  have t0 : decide ((5 : Int) < (n0 : Int)) = false := decide_eq_false (by omega)
  have t1 : decide (5 < n0) = false := decide_eq_false (by omega)
  clear hl hrow
  go_enter Try.func3, Try.ntmps3
  go_wp2_with (first | (go_at_call 13; refine (psalterylaw18_alive.holds _).mono ?_; rintro e w1 ⟨rfl, g2⟩; have HB1 := Aside0.mk g2; clear g2) | (go_at_call 14; refine (pitch_NewHunter.calls _).mono ?_; rintro e w2 ⟨rfl, g1, g2⟩; have HI := Aside0.mk (show HInv w w2 w1.heap.size 86 (lasts []) (.slice none 0 0) [] from ⟨by rw [lasts_nil]; exact g1, own_nil _ _ _ _, below_step HB1.out g2, below_size HB1.out⟩); clear g1 g2))
  go_loopg [4, 5, 6, 7, 8] n0 (fun kq v4 v5 v6 v7 v8 wx => ∃ (i : Nat) (u : Value) (B : List Int), v5 = .int .i64 i ∧ v4 = u ∧ Aside0 (kq + i = n0) ∧ Aside0 (HInv w wx w1.heap.size 86 (lasts B) u B) ∧ Aside0 (B.length ≤ 120 * i ∧ ∀ v ∈ B, -32768 ≤ v ∧ v ≤ 32767))
  case atStart => exact ⟨0, _, [], rfl, rfl, ⟨rfl⟩, HI, ⟨by simp, fun v hv => by cases hv⟩⟩
  case round =>
    clear HI
    obtain ⟨i, u4, B, rfl, rfl, HK, HI, HB⟩ := hrel
    by_cases hi : i < n0
    · obtain ⟨ad0, Ai, ci, x, e0, hx0, hC, hxr⟩ := HR.out i hi
      have q0 : ((i : Int) < (n0 : Int)) = True := eq_true (by omega)
      have b0 : decide ((i : Int) < (n0 : Int)) = true := decide_eq_true (by omega)
      have b1 : decide (i < n0) = true := decide_eq_true hi
      subst e0
      have hy0 := (HI.out.be.cell (World.block_lt_of_cell? w _ hx0)).trans hx0
      have HX0 := Aside0.mk hx0
      have HC0 := Aside0.mk hC
      have HXR := Aside0.mk hxr
      have HII := Aside0.mk hi
      obtain ⟨g0, hg0⟩ : ∃ g0, g0 + 1 = gk := ⟨gk - 1, by have := HK.out; omega⟩
      have HGO := Aside0.mk hg0
      clear hx0 hC hxr hi hg0
      by_cases hxl : 300 < x.length
      · have l0 : decide ((300 : Int) < (x.length : Int)) = true := decide_eq_true (by omega)
        have l1 : decide (300 < x.length) = true := decide_eq_true (by omega)
        clear hxl
        go_wp2
        go_ret
        exact ⟨rfl, HI.out.be⟩
      · have l0 : decide ((300 : Int) < (x.length : Int)) = false := decide_eq_false (by omega)
        have l1 : decide (300 < x.length) = false := decide_eq_false (by omega)
        clear hxl
        by_cases hxm : 120 < x.length
        · have m0 : decide ((120 : Int) < (x.length : Int)) = true := decide_eq_true (by omega)
          have m1 : decide (120 < x.length) = true := decide_eq_true (by omega)
          have HXM := Aside0.mk hxm
          clear hxm
          go_wp2_with (first | (go_at_call 15; refine (pitch_Hunter_Feed.long w1.heap.size Ai x.length ci _ HXM.out).mono ?_; rintro e w3 ⟨rfl, g2⟩; have HI3 := Aside0.mk (HI.out.later g2); have hz : ∀ o, (w3.alloc o).cell? (ad0.add i) = some (.slice Ai x.length ci) := (fun o => ((below_alloc HI3.out.be o).cell (World.block_lt_of_cell? w _ HX0.out)).trans HX0.out); clear g2))
          repeat (go_quiet (fail); try go_wp2)
          go_roundg (gk - 1)
          case rel => exact ⟨i + 1, _, B, by rw [wrap64_nat1 (by have := HL.out; have := HII.out; omega)], rfl, ⟨by have := HK.out; have := HII.out; omega⟩, ⟨HI3.out.later (below_alloc (Below.refl _ _) _)⟩, ⟨by have := HB.out.1; omega, HB.out.2⟩⟩
          case measure => have := HK.out; have := HII.out; omega
        · have m0 : decide ((120 : Int) < (x.length : Int)) = false := decide_eq_false (by omega)
          have m1 : decide (120 < x.length) = false := decide_eq_false (by omega)
          have hxm2 : x.length ≤ 120 := by omega
          have HXM := Aside0.mk hxm2
          clear hxm hxm2
          have hall : ∀ v ∈ lasts B ++ x, -32768 ≤ v ∧ v ≤ 32767 := by
            intro v hv
            rcases List.mem_append.1 hv with hv | hv
            · have h_ := List.mem_of_mem_drop hv
              rcases List.mem_append.1 h_ with h_ | h_
              · rw [List.eq_of_mem_replicate h_]; omega
              · exact HB.out.2 v h_
            · exact HXR.out v hv
          obtain ⟨s, ks, hs, hev⟩ := Hunt_is (A := B) (x := x) rfl HXM.out (by have := HB.out.1; have := HL.out; have := HII.out; have := HXM.out; omega) hall
          obtain ⟨kh, hkh⟩ := hev.rounds
          obtain ⟨lg, hlg⟩ : ∃ lg, lg = if s = 0 then 0 else (pbest (lasts B ++ x) x.length 63).1 := ⟨_, rfl⟩
          rw [← hlg] at hkh
          have HS := Aside0.mk hs
          have HKH := Aside0.mk hkh
          have HLG := Aside0.mk hlg
          clear hall hs hkh hev hlg
          go_wp2_with (first | (go_at_call 15; refine (pitch_Hunter_Feed.calls w1.heap.size Ai x.length ci (lasts B) x (lasts B ++ x) s ks _ HI.out.pp (HC0.out.below HI.out.be) HXM.out HXR.out rfl HS.out).mono ?_; rw [← HLG.out]; rintro e w3 ⟨rfl, g1, g2⟩; rw [lasts_next] at g1; have HI3 := Aside0.mk (HI.out.feed (by decide) g1 g2); have hz : ∀ o, (w3.alloc o).cell? (ad0.add i) = some (.slice Ai x.length ci) := (fun o => ((below_alloc HI3.out.be o).cell (World.block_lt_of_cell? w _ HX0.out)).trans HX0.out); clear g1 g2))
          go_loopg [4, 8] x.length (fun kq v4 v8 wx => ∃ (k : Nat) (u : Value) (L : List Int), v8 = .int .i64 k ∧ v4 = u ∧ Aside0 (kq + k = x.length) ∧ Aside0 (HInv w wx w1.heap.size 86 (lasts (B ++ x)) u L) ∧ Aside0 (L = B ++ x.take k) ∧ Aside0 (wx.heap[w3.heap.size]? = some (.cells #[.int .i64 lg, .int .i64 s] 29 (0, 0))))
          case atStart => exact ⟨0, _, B, rfl, rfl, ⟨rfl⟩, ⟨HI3.out.later (below_alloc (Below.refl _ _) _)⟩, ⟨by simp⟩, ⟨blk_new _ _⟩⟩
          case round =>
            obtain ⟨k, u4, L, rfl, rfl, HKI, HI4, HLL, HBX⟩ := hrel
            have hz4 := (HI4.out.be.cell (World.block_lt_of_cell? w _ HX0.out)).trans HX0.out
            clear hz
            by_cases hk : k < x.length
            · have k0 : decide ((k : Int) < (x.length : Int)) = true := decide_eq_true (by omega)
              have k1 : decide (k < x.length) = true := decide_eq_true hk
              have k2 : ((k : Int) < (x.length : Int)) = True := eq_true (by omega)
              obtain ⟨adx, eA, hcell⟩ := HC0.out.2.2 (by omega)
              obtain ⟨y, hy⟩ : ∃ y, y = x.getD k 0 := ⟨_, rfl⟩
              have hyr : -32768 ≤ y ∧ y ≤ 32767 := by rw [hy, List.getD_eq_getElem?_getD, List.getElem?_eq_getElem hk]; exact HXR.out _ (List.getElem_mem _)
              have hyw : wrap64 y = y := by unfold wrap64; omega
              have hx1 := hcell k hk
              rw [← hy] at hx1
              have hx2 := (HI4.out.be.cell (World.block_lt_of_cell? w _ hx1)).trans hx1
              subst eA
              have HY := Aside0.mk hy
              have HKK := Aside0.mk hk
              have HYR := Aside0.mk hyr
              clear hcell hx1 hy hk hyr
              go_wp2_with (first | (at_builtin; refine print_append_num (w0 := w) (W := wr) w.heap.size rfl (.tmp 58) (.tmp 67) 26 2 .i64 8 rfl Try.underlying26 info2 (by decide) u4 L y rfl rfl HI4.out.al HI4.out.be (below_size HI4.out.be) (by rw [HLL.out]; have h1_ := HB.out.1; have h2_ := HL.out; have h3_ := HII.out; have h4_ := HXM.out; simp; omega) ?_; intro v1 w5 g1 g2 g3 g4; have HI5 := Aside0.mk (HI4.out.grow (by decide) g1 g2 g3); have HBX5 := Aside0.mk ((g3.block _ (blk_lt HBX.out) (own_ne HI4.out.al HBX.out (by decide))).trans HBX.out); clear g1 g2 g3 g4))
              go_roundg (gk - 1)
              case rel => exact ⟨k + 1, _, _, by rw [wrap64_nat1 (by have := HXM.out; have := HKK.out; omega)], rfl, ⟨by have := HKI.out; have := HKK.out; omega⟩, HI5, ⟨by rw [HLL.out, HY.out, List.append_assoc, List.take_add_one, List.getElem?_eq_getElem HKK.out, List.getD_eq_getElem?_getD, List.getElem?_eq_getElem HKK.out]; rfl⟩, HBX5⟩
              case measure => have := HKI.out; have := HKK.out; omega
            · have k0 : decide ((k : Int) < (x.length : Int)) = false := decide_eq_false (by omega)
              have k1 : decide (k < x.length) = false := decide_eq_false hk
              have hLe : L = B ++ x := by rw [HLL.out, List.take_of_length_le (by omega)]
              have HLE := Aside0.mk hLe
              clear hk hLe
              obtain ⟨Al, cl, eL⟩ := own_slice HI4.out.al
              subst eL
              go_wp2
              have hz1 : wr.drew.cell? (ad0.add i) = some (.slice Ai x.length ci) := hz4
              have k6 : wr.drew.cell? ⟨w3.heap.size, 0, none⟩ = some (.int .i64 lg) := by show wr.cell? _ = _; rw [blk_cell HBX.out]; rfl
              have k7 : wr.drew.cell? ⟨w3.heap.size, 1, none⟩ = some (.int .i64 s) := by show wr.cell? _ = _; rw [blk_cell HBX.out]; rfl
              have HI5 := Aside0.mk (show HInv w wr.drew w1.heap.size 86 (lasts (B ++ x)) (.slice Al L.length cl) L from HI4.out.later (pw_below_drewN (Below.refl _ _) 1))
              have HKL := Aside0.mk (show psalteryref18_Hunt.f kh L (x.length : Int) = some (lg, s) from by rw [HLE.out]; exact HKH.out)
              clear hz4
              go_region_held3 (fun w' => w'.cell? (ad0.add i) = some (.slice Ai x.length ci) ∧ w'.cell? ⟨w3.heap.size, 0, none⟩ = some (.int .i64 lg) ∧ w'.cell? ⟨w3.heap.size, 1, none⟩ = some (.int .i64 s)) (first | exact ⟨hz1, k6, k7⟩ | exact ⟨hz5, j6, j7⟩)
                (first | (go_at_call 16; refine (psalteryref18_Hunt.calls kh Al cl L (x.length : Int) lg s _ (own_C HI5.out.al) (own_cap HI5.out.al) HKL.out).mono ?_; rintro e w6 ⟨rfl, g2⟩; have hz5 := (g2.cell (World.block_lt_of_cell? _ _ hz1)).trans hz1; have j6 := (g2.cell (World.block_lt_of_cell? _ _ k6)).trans k6; have j7 := (g2.cell (World.block_lt_of_cell? _ _ k7)).trans k7; have HI6 := Aside0.mk (HI5.out.later g2); clear g2))
              go_wp2
              go_roundg g0
              case rel => exact ⟨i + 1, _, L, by rw [wrap64_nat1 (by have := HL.out; have := HII.out; omega)], rfl, ⟨by have := HK.out; have := HII.out; have := HGO.out; omega⟩, ⟨by have h_ := HI6.out; rw [← HLE.out] at h_; exact h_⟩, ⟨by rw [HLE.out, List.length_append]; have := HB.out.1; have := HXM.out; omega, by rw [HLE.out]; intro v hv; rcases List.mem_append.1 hv with hv | hv; exact HB.out.2 v hv; exact HXR.out v hv⟩⟩
              case measure => have := HK.out; have := HII.out; have := HGO.out; omega
    · have b0 : decide ((i : Int) < (n0 : Int)) = false := decide_eq_false (by omega)
      have b1 : decide (i < n0) = false := decide_eq_false (by omega)
      clear hi
      go_wp2
      go_ret
      exact ⟨rfl, HI.out.be⟩
theorem psalterylaw18_PitchHunts.calls (A0 : Option Addr) (c0 n0 : Nat) (w : World)
    (hrow : ∀ i : Nat, i < n0 → ∃ ad A c x, A0 = some ad ∧ w.cell? (ad.add i) = some (.slice A x.length c) ∧ ReadsInt w .i16 A x.length x ∧ ∀ v ∈ x, -32768 ≤ v ∧ v ≤ 32767) :
    Calls Try.prog 3 #[.slice A0 n0 c0] w fun e w' => e = .returned (.bool true) ∧ Below w.heap.size w w' := by
  by_cases hl : 5 < n0
  · exact psalterylaw18_PitchHunts.long A0 c0 n0 w hl
  · exact psalterylaw18_PitchHunts.walk A0 c0 n0 w (by omega) hrow
end Go.Proofs.Ytblehkoonajofaa.PPitch
