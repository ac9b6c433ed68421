/- The law PcmOrder walked: what is taken out of a store is what was put into it, in order. -/
import Derived.Test.YtgmgdbcfgbgnlaaPcmStore
import Derived.Test.YtgmgdbcfgbgnlaaPcmLib
import Derived.Test.YtgmgdbcfgbgnlaaPPcmx1
import Derived.Deep.LoopGhost
import Derived.WalkSpells
import Derived.Outline
namespace Go.Proofs.Ytgmgdbcfgbgnlaa.PPcm
open Go.RowKit Go.Proofs.YtgmgdbcfgbgnlaaW.PrintWords Go.Proofs.YtgmgdbcfgbgnlaaW.PrintLast Go.Proofs.YtgmgdbcfgbgnlaaW.PrintMore
attribute [local go_sem] max2_int min2_int max_two min_two max_three min_three max_four min_four   -- for this text's walks alone
set_option linter.unusedVariables false
set_option linter.unusedSimpArgs false
theorem own_cap {w : World} {base n c : Nat} {e : TypeId} {A : Option Addr} {xs : List Value} (h : w.ownsRow base e 1 (.slice A n c) n xs) : n ≤ c := by
  rcases h.2 with ⟨h, _⟩ | ⟨g, cap, cur, h, _, _, hc, _⟩
  · cases h; exact Nat.le_refl _
  · cases h; exact hc
theorem tk_le (n : Int) : tk n ≤ 4096 := by unfold tk; split <;> omega
theorem takeL_length (n : Int) (l : List Int) : (takeL n l).length = tk n := by unfold takeL; simp; omega
theorem takeL_take (n : Int) (l : List Int) : (takeL n l).take (min l.length (tk n)) = l.take (tk n) := by
  unfold takeL
  by_cases c : tk n ≤ l.length
  · rw [Nat.min_eq_right c, Nat.sub_eq_zero_of_le c, List.replicate_zero, List.append_nil, List.take_take, Nat.min_self]
  · rw [Nat.min_eq_left (by omega), List.take_of_length_le (show l.length ≤ tk n by omega), List.take_append_of_le_length (Nat.le_refl _), List.take_of_length_le (Nat.le_refl _)]
theorem takeL_zero (n : Int) (l : List Int) (j : Nat) (h : min l.length (tk n) ≤ j) : (takeL n l).getD j 0 = 0 := by
  unfold takeL
  rw [List.getD_eq_getElem?_getD]
  rcases Nat.lt_or_ge j (l.take (tk n)).length with c | c
  · rw [List.length_take] at c; omega
  · rw [List.getElem?_append_right c, List.getElem?_replicate]; split <;> rfl
theorem pcm_Put.to (base p : Nat) (most : Int) (l x ST : List Int) (hST : ST = l ++ x) (v : Value) (A : Option Addr) (c : Nat) (W : World) (hB : base ≤ W.heap.size) (hs : W.heap[p]? = some (.cells #[.int .i64 most, v] 84 (0, 0))) (ho : W.ownsRow base 33 1 v l.length (nums .i16 l)) (hx : Kd.C (Kd.int .i16) W A x.length x) (h1 : ¬ (x.length : Int) > most - l.length) (hm : 0 ≤ most) (hm2 : most ≤ 4096) (hl : (l.length : Int) ≤ most) :
    Calls Try.prog 16 #[.pointer (some ⟨p, 0, none⟩), .slice A x.length c] W fun e w' => e = .returned (.int .i64 0) ∧ ∃ v', w'.heap[p]? = some (.cells #[.int .i64 most, v'] 84 (0, 0)) ∧ w'.ownsRow base 33 1 v' ST.length (nums .i16 ST) ∧ (v'.ownBlock = v.ownBlock ∨ ∃ b, v'.ownBlock = some b ∧ W.heap.size ≤ b) ∧ Chg W w' p v.ownBlock := by
  subst hST; exact pcm_Put.put base p most l x v A c W hB hs ho hx h1 hm hm2 hl
theorem pcm_Take.to (base p : Nat) (n most : Int) (l TL S6 : List Int) (hT : TL = takeL n l) (hS : S6 = l.drop (tk n)) (v : Value) (W : World) (hs : W.heap[p]? = some (.cells #[.int .i64 most, v] 84 (0, 0))) (ho : W.ownsRow base 33 1 v l.length (nums .i16 l)) :
    Calls Try.prog 18 #[.pointer (some ⟨p, 0, none⟩), .int .i64 n] W fun e w' => ∃ A c v', e = .returned (.slice A TL.length c) ∧ w'.ownsRow W.heap.size 33 1 (.slice A TL.length c) TL.length (nums .i16 TL) ∧ w'.heap[p]? = some (.cells #[.int .i64 most, v'] 84 (0, 0)) ∧ w'.ownsRow base 33 1 v' S6.length (nums .i16 S6) ∧ v'.ownBlock = v.ownBlock ∧ Chg W w' p v.ownBlock := by
  subst hT; subst hS
  refine (pcm_Take.any base p n most l v W hs ho).mono ?_
  rintro e w' ⟨A, c, v', rfl, hR, h⟩
  exact ⟨A, c, v', rfl, Kd.own_of_R hR, h⟩
theorem cutk (A : Option Addr) (n c k : Nat) (h : k ≤ n) (hc : n ≤ c) : ∀ W : World, (Instr.slice 29 (.slice A n c) none (some (.int .i64 (k : Int))) none).run Try.prog W = .ok (.slice A k c) W := fun W => by
  obtain ⟨i0, hi0, _⟩ := Option.map_eq_some_iff.1 info33
  have := cut_to 29 33 .i64 Try.underlying29 hi0 A n c k (by omega) (by omega) hc W
  rw [Int.toNat_natCast] at this; exact this
theorem own_C {w : World} {base n c : Nat} {A : Option Addr} {xs : List Int} (h : w.ownsRow base 33 1 (.slice A n c) xs.length (nums .i16 xs)) : Kd.C (Kd.int .i16) w A xs.length xs := by
  have hr : Kd.R (Kd.int .i16) 33 w base (fun _ => True) (.slice A n c) xs := Kd.R_of_own h (fun _ _ => trivial)
  obtain ⟨A', c', e⟩ := Kd.R_slice hr
  cases e
  exact (Kd.R_reads' hr).2.2
theorem own_reads' {w : World} {base n c : Nat} {A : Option Addr} {xs : List Int} (h : w.ownsRow base 33 1 (.slice A n c) n (nums .i16 xs)) : ReadsInt w .i16 A n xs := by
  obtain ⟨A', c', e, hr⟩ := own_reads h
  cases e; exact hr
theorem wrap64_nat1 {n : Nat} (h : n ≤ 1000000) : wrap64 ((n : Int) + 1) = ((n + 1 : Nat) : Int) := by unfold wrap64; omega
set_option maxHeartbeats 8000000 in
set_option maxRecDepth 100000 in
theorem psalterylaw10_PcmOrder.long (A0 : Option Addr) (c0 : Nat) (n0 : Nat) (A1 : Option Addr) (c1 n1 : Nat) (w : World) (hl : 40 < n0 ∨ 40 < n1) :
    Calls Try.prog 3 #[.slice A0 n0 c0, .slice A1 n1 c1] w fun e w' => e = .returned (.bool true) ∧ Below w.heap.size w w' := by
  have HB := Aside0.mk (Below.refl w.heap.size w)
  by_cases h0 : 40 < n0
  · have t0 : decide ((40 : Int) < (n0 : Int)) = true := decide_eq_true (by omega)
    have t1 : decide (40 < n0) = true := decide_eq_true h0
    clear hl h0
    go_enter Try.func3, Try.ntmps3
    go_wp2_with (first | (go_at_call 14; refine (psalterylaw10_alive.calls 20 true _ (PcmLib.alive_eq (Nat.le_refl _))).mono ?_; rintro e w1 ⟨rfl, hb⟩; have n0_ := Aside0.mk (below_step HB.out hb); clear HB hb; have HB := n0_; clear n0_) | (go_at_call 15; refine (pcm_NewStore.calls 4096 (by decide) (by decide) _).mono ?_; rintro e wN ⟨pS, rfl, hst, hge, hb⟩; have n0_ := Aside0.mk (below_step HB.out hb); clear HB hb; have HB := n0_; clear n0_))
    repeat (go_quiet (fail); try go_wp2)
    go_ret
    exact ⟨rfl, HB.out⟩
  · have t0 : decide ((40 : Int) < (n0 : Int)) = false := decide_eq_false (by omega)
    have t1 : decide (40 < n0) = false := decide_eq_false h0
    have t2 : decide ((40 : Int) < (n1 : Int)) = true := decide_eq_true (by omega)
    have t3 : decide (40 < n1) = true := decide_eq_true (by omega)
    clear hl h0
    go_enter Try.func3, Try.ntmps3
    go_wp2_with (first | (go_at_call 14; refine (psalterylaw10_alive.calls 20 true _ (PcmLib.alive_eq (Nat.le_refl _))).mono ?_; rintro e w1 ⟨rfl, hb⟩; have n0_ := Aside0.mk (below_step HB.out hb); clear HB hb; have HB := n0_; clear n0_) | (go_at_call 15; refine (pcm_NewStore.calls 4096 (by decide) (by decide) _).mono ?_; rintro e wN ⟨pS, rfl, hst, hge, hb⟩; have n0_ := Aside0.mk (below_step HB.out hb); clear HB hb; have HB := n0_; clear n0_))
    repeat (go_quiet (fail); try go_wp2)
    go_ret
    exact ⟨rfl, HB.out⟩
set_option maxHeartbeats 8000000 in
set_option maxRecDepth 100000 in
theorem psalterylaw10_PcmOrder.walk (A0 : Option Addr) (c0 : Nat) (n0 : Nat) (A1 : Option Addr) (c1 n1 : Nat) (w : World) (hl : n0 ≤ 40 ∧ n1 ≤ 40)
    (hrow : ∀ i : Nat, i < n0 → ∃ ad A c x, A0 = some ad ∧ w.cell? (ad.add i) = some (.slice A x.length c) ∧ Kd.C (Kd.int .i16) w A x.length x)
    (hnum : ∀ i : Nat, i < n1 → ∃ ad, ∃ x : Int, A1 = some ad ∧ w.cell? (ad.add i) = some (.int .u8 x) ∧ 0 ≤ x ∧ x ≤ 255) :
    Calls Try.prog 3 #[.slice A0 n0 c0, .slice A1 n1 c1] w fun e w' => e = .returned (.bool true) ∧ Below w.heap.size w w' := by
  have HB := Aside0.mk (Below.refl w.heap.size w)
  have HR := Aside0.mk hrow
  have HN := Aside0.mk hnum
  have HL := Aside0.mk hl
  have t0 : decide ((40 : Int) < (n0 : Int)) = false := decide_eq_false (by omega)
  have t1 : decide (40 < n0) = false := decide_eq_false (by omega)
  have t2 : decide ((40 : Int) < (n1 : Int)) = false := decide_eq_false (by omega)
  have t3 : decide (40 < n1) = false := decide_eq_false (by omega)
  clear hl hrow hnum
  go_enter Try.func3, Try.ntmps3
  go_wp2_with (first | (go_at_call 14; refine (psalterylaw10_alive.calls 20 true _ (PcmLib.alive_eq (Nat.le_refl _))).mono ?_; rintro e w1 ⟨rfl, hb⟩; have n0_ := Aside0.mk (below_step HB.out hb); clear HB hb; have HB := n0_; clear n0_) | (go_at_call 15; refine (pcm_NewStore.calls 4096 (by decide) (by decide) _).mono ?_; rintro e wN ⟨pS, rfl, hst, hge, hb⟩; have n0_ := Aside0.mk (Inv.mk (st := []) (xi := []) (xo := []) hst (own_nil _ _ _ _) (own_nil _ _ _ _) (own_nil _ _ _ _) (fun b h => by simp [Value.ownBlock] at h) (fun b h => by simp [Value.ownBlock] at h) (below_step HB.out hb) (Nat.le_trans (below_size HB.out) hge)); clear HB hb hst hge; have HI := n0_; clear n0_))
  repeat (go_quiet (fail); try go_wp2)
  go_loopg [7, 8, 9, 10] 41 (fun kq v7 v8 v9 v10 w' => ∃ (vs vi vo : Value) (st xi xo : List Int) (i : Nat), v7 = vi ∧ v8 = vo ∧ v9 = .int .i64 0 ∧ v10 = .int .i64 i ∧ Aside0 (Inv w w' pS vs vi vo st xi xo) ∧ Aside0 (xi = xo ++ st ∧ st.length ≤ 4096 ∧ xi.length ≤ 4096 * i ∧ kq + i = 41 ∧ i ≤ 40))
  case atStart => exact ⟨_, _, _, [], [], [], 0, rfl, rfl, rfl, rfl, HI, ⟨rfl, by decide, by decide, rfl, by decide⟩⟩
  case round =>
    clear HI
    obtain ⟨vs, u7, u8, st, xi, xo, i, rfl, rfl, rfl, rfl, HI, HA⟩ := hrel
    obtain ⟨g0, hg0⟩ : ∃ g0, g0 + 1 = gk := ⟨gk - 1, by have := HA.out; omega⟩
    have HGO := Aside0.mk hg0
    clear hg0
    by_cases hi : i < n0 ∨ i < n1
    · have HIB := Aside0.mk hi
      by_cases hi0 : i < n0
      · by_cases hi1 : i < n1
        · clear hi
          obtain ⟨ad0, Ai, ci, x, e0, hx0, hC⟩ := HR.out i hi0
          have q0 : ((i : Int) < (n0 : Int)) = True := eq_true (by omega)
          have b0 : decide ((i : Int) < (n0 : Int)) = true := decide_eq_true (by omega)
          have b1 : decide (i < n0) = true := decide_eq_true (by omega)
          subst e0
          have hx1 := (HI.out.be.cell (World.block_lt_of_cell? w _ hx0)).trans hx0
          have HX0 := Aside0.mk hx0
          have HC0 := Aside0.mk hC
          have HC := Aside0.mk (Kd.C_below hC HI.out.be)
          clear hi0 hx0 hC
          obtain ⟨ad1, y, e1, hy0, hyr0, hyr1⟩ := HN.out i hi1
          have q1 : ((i : Int) < (n1 : Int)) = True := eq_true (by omega)
          have d0 : decide ((i : Int) < (n1 : Int)) = true := decide_eq_true (by omega)
          have d1 : decide (i < n1) = true := decide_eq_true (by omega)
          subst e1
          have hyr := (HI.out.be.cell (World.block_lt_of_cell? w _ hy0)).trans hy0
          have hyw : wrap64 y = y := by unfold wrap64; omega
          have HY0 := Aside0.mk hy0
          have HYR := Aside0.mk (show 0 ≤ y ∧ y ≤ 255 from ⟨hyr0, hyr1⟩)
          clear hi1 hy0 hyr0 hyr1
          by_cases hf : (x.length : Int) > 4096 - st.length
          · have HF := Aside0.mk hf
            clear hf
            obtain ⟨TL, hTL⟩ : ∃ TL, TL = takeL y st := ⟨_, rfl⟩
            obtain ⟨S6, hS6⟩ : ∃ S6, S6 = st.drop (tk y) := ⟨_, rfl⟩
            obtain ⟨kk, hkk⟩ : ∃ kk, kk = min st.length (tk y) := ⟨_, rfl⟩
            have hlt : TL.length = tk y := by rw [hTL, takeL_length]
            have hmin : (if (TL.length : Int) < (st.length : Int) then (TL.length : Int) else (st.length : Int)) = (kk : Int) := by rw [hlt, hkk]; split <;> omega
            have hmin2 : (if TL.length < st.length then (TL.length : Int) else (st.length : Int)) = (kk : Int) := by rw [hlt, hkk]; split <;> omega
            obtain ⟨XO, hXO⟩ : ∃ XO, XO = xo ++ TL.take kk := ⟨_, rfl⟩
            have HTL := Aside0.mk hTL
            have HS6 := Aside0.mk hS6
            have HKK := Aside0.mk hkk
            have HLT := Aside0.mk hlt
            have HXO := Aside0.mk hXO
            clear hTL hS6 hkk hlt hXO
            go_wp2_with (first | (go_at_call 16; refine (pcm_Put.full w.heap.size pS 4096 st x vs Ai ci _ (below_size HI.out.be) HI.out.sp HI.out.os HC.out HF.out (by decide) (by decide) (by have := HA.out; omega)).mono ?_; rintro e w3 ⟨rfl, q3, hq⟩; have HI3 := Aside0.mk (show Inv w w3 pS vs u7 u8 st xi xo from hq ▸ HI.out.drewN q3); clear hq; have hy3 := (HI3.out.be.cell (World.block_lt_of_cell? w _ HY0.out)).trans HY0.out) | (go_at_call 17; obtain ⟨Av, cv, eV⟩ := own_slice HI3.out.os; subst eV; refine (pcm_Len.calls pS _ Av st.length cv 84 (0, 0) _ HI3.out.sp).mono ?_; rintro e w5 ⟨rfl, q5, hq5⟩; have HI5 := Aside0.mk (show Inv w w5 pS _ _ _ _ _ _ from hq5 ▸ HI3.out.drewN q5); have hy5 := (HI5.out.be.cell (World.block_lt_of_cell? w _ HY0.out)).trans HY0.out; clear hq5) | (go_at_call 18; refine (pcm_Take.to w.heap.size pS y 4096 st TL S6 HTL.out HS6.out _ _ HI5.out.sp HI5.out.os).mono ?_; rintro e w6 ⟨Ax, cx, vs6, rfl, hox, g1, g2, g3, g4⟩; have HI6 := Aside0.mk (HI5.out.chg g1 g2 (.inl g3) g4); have HOX := Aside0.mk hox; have hcut := cutk Ax TL.length cx kk (by rw [HKK.out, HLT.out]; omega) (own_cap hox); clear hox g1 g2 g3 g4) | (at_builtin; refine print_append_row (w0 := w) (W := w6) w.heap.size rfl (.tmp 83) (.tmp 86) 29 33 .i16 2 rfl Try.underlying29 info33 (by decide) u8 xo (TL.take kk) Ax kk cx rfl rfl HI6.out.oo ((own_reads' HOX.out).take_ kk (by rw [HKK.out, HLT.out]; omega)) HI6.out.be (below_size HI6.out.be) (by have h1_ := HA.out; have h2_ := congrArg List.length HA.out.1; have h3_ := HKK.out; have h4_ := tk_le y; rw [List.length_append] at h2_; omega) ?_; intro v2 w7 g1 g2 g3 g4; rw [← HXO.out] at g1; have HI7 := Aside0.mk (HI6.out.appOut g1 g2 g3 g4); have HRX := Aside0.mk (own_reads' (own_move HOX.out (fun k hk => g3.block k (own_lt HOX.out k hk) (by intro e; have h1_ := own_base HOX.out k hk; have h2_ := own_lt HI5.out.oo k e.symm; omega)))); clear g1 g2 g3 g4))
            go_loopg [9, 14] (TL.length - kk) (fun kj v9 v14 wx => ∃ j : Nat, v9 = .int .i64 0 ∧ v14 = .int .i64 j ∧ wx = w7 ∧ Aside0 (kj + j = TL.length ∧ kk ≤ j))
            case atStart => exact ⟨kk, rfl, rfl, rfl, ⟨by have h1_ := HKK.out; have h2_ := HLT.out; rw [h2_]; omega, Nat.le_refl _⟩⟩
            case round =>
              obtain ⟨j, rfl, rfl, rfl, HJ⟩ := hrel
              by_cases hj : j < TL.length
              · obtain ⟨adx, ex, hcx⟩ := HRX.out.2.2 (by omega)
                have hxj := hcx j hj
                rw [HTL.out, takeL_zero y st j (by have h1_ := HJ.out; have h2_ := HKK.out; omega)] at hxj
                subst ex
                have j0 : decide ((j : Int) < (TL.length : Int)) = true := decide_eq_true (by omega)
                have j1 : decide (j < TL.length) = true := decide_eq_true (by omega)
                have j2 : ((j : Int) < (TL.length : Int)) = True := eq_true (by omega)
                have HJL := Aside0.mk hj
                clear hj hcx
                go_wp2
                go_roundg (gk - 1)
                case measure => have h1_ := HJ.out; have h2_ := HJL.out; omega
                case rel => exact ⟨j + 1, rfl, (by rw [wrap64_nat1 (by have h1_ := HJL.out; have h2_ := HLT.out; have h3_ := tk_le y; omega)]), rfl, ⟨by have h1_ := HJ.out; have h2_ := HJL.out; omega, by have h1_ := HJ.out; omega⟩⟩
              · have j0 : decide ((j : Int) < (TL.length : Int)) = false := decide_eq_false (by omega)
                have j1 : decide (j < TL.length) = false := decide_eq_false (by omega)
                clear hj
                go_wp2
                go_roundg g0
                case measure => have := HA.out; have := HGO.out; omega
                case rel => exact ⟨_, _, _, S6, xi, XO, i + 1, rfl, rfl, rfl, (by rw [wrap64_nat1 (by have := HA.out; omega)]), HI7, ⟨by rw [HXO.out, HS6.out, HKK.out, HTL.out, takeL_take, List.append_assoc, List.take_append_drop]; exact HA.out.1, by have h1_ := HA.out; have h9_ := HGO.out; have h5_ := congrArg List.length HS6.out; rw [List.length_drop] at h5_; omega, by have h1_ := HA.out; have h9_ := HGO.out; have h5_ := congrArg List.length HS6.out; rw [List.length_drop] at h5_; omega, by have h1_ := HA.out; have h9_ := HGO.out; have h5_ := congrArg List.length HS6.out; rw [List.length_drop] at h5_; omega, by have h1_ := HA.out; have h2_ := HIB.out; have h3_ := HL.out; have h4_ := HGO.out; omega⟩⟩
          · have HF := Aside0.mk hf
            clear hf
            obtain ⟨ST, hST⟩ : ∃ ST, ST = st ++ x := ⟨_, rfl⟩
            obtain ⟨XI, hXI⟩ : ∃ XI, XI = xi ++ x := ⟨_, rfl⟩
            have HST := Aside0.mk hST
            have HXI := Aside0.mk hXI
            clear hST hXI
            obtain ⟨TL, hTL⟩ : ∃ TL, TL = takeL y ST := ⟨_, rfl⟩
            obtain ⟨S6, hS6⟩ : ∃ S6, S6 = ST.drop (tk y) := ⟨_, rfl⟩
            obtain ⟨kk, hkk⟩ : ∃ kk, kk = min ST.length (tk y) := ⟨_, rfl⟩
            have hlt : TL.length = tk y := by rw [hTL, takeL_length]
            have hmin : (if (TL.length : Int) < (ST.length : Int) then (TL.length : Int) else (ST.length : Int)) = (kk : Int) := by rw [hlt, hkk]; split <;> omega
            have hmin2 : (if TL.length < ST.length then (TL.length : Int) else (ST.length : Int)) = (kk : Int) := by rw [hlt, hkk]; split <;> omega
            obtain ⟨XO, hXO⟩ : ∃ XO, XO = xo ++ TL.take kk := ⟨_, rfl⟩
            have HTL := Aside0.mk hTL
            have HS6 := Aside0.mk hS6
            have HKK := Aside0.mk hkk
            have HLT := Aside0.mk hlt
            have HXO := Aside0.mk hXO
            clear hTL hS6 hkk hlt hXO
            go_wp2_with (first | (go_at_call 16; refine (pcm_Put.to w.heap.size pS 4096 st x ST HST.out vs Ai ci _ (below_size HI.out.be) HI.out.sp HI.out.os HC.out HF.out (by decide) (by decide) (by have := HA.out; omega)).mono ?_; rintro e w3 ⟨rfl, vs3, g1, g2, g3, g4⟩; have HI3 := Aside0.mk (HI.out.chg g1 g2 g3 g4); have hx3 := (HI3.out.be.cell (World.block_lt_of_cell? w _ HX0.out)).trans HX0.out; have HC3 := Aside0.mk (Kd.C_below HC0.out HI3.out.be); clear g1 g2 g3 g4) | (at_builtin; refine print_append_row (w0 := w) (W := w3) w.heap.size rfl (.tmp 60) (.tmp 64) 29 33 .i16 2 rfl Try.underlying29 info33 (by decide) u7 xi x Ai x.length ci rfl rfl HI3.out.oi (reads_int HC3.out) HI3.out.be (below_size HI3.out.be) (by have := HA.out; have := HF.out; omega) ?_; intro v1 w4 g1 g2 g3 g4; rw [← HXI.out] at g1; have HI4 := Aside0.mk (HI3.out.appIn g1 g2 g3 g4); clear g1 g2 g3 g4; have hy4 := (HI4.out.be.cell (World.block_lt_of_cell? w _ HY0.out)).trans HY0.out) | (go_at_call 17; obtain ⟨Av, cv, eV⟩ := own_slice HI4.out.os; subst eV; refine (pcm_Len.calls pS _ Av ST.length cv 84 (0, 0) _ HI4.out.sp).mono ?_; rintro e w5 ⟨rfl, q5, hq5⟩; have HI5 := Aside0.mk (show Inv w w5 pS _ _ _ _ _ _ from hq5 ▸ HI4.out.drewN q5); have hy5 := (HI5.out.be.cell (World.block_lt_of_cell? w _ HY0.out)).trans HY0.out; clear hq5) | (go_at_call 18; refine (pcm_Take.to w.heap.size pS y 4096 ST TL S6 HTL.out HS6.out _ _ HI5.out.sp HI5.out.os).mono ?_; rintro e w6 ⟨Ax, cx, vs6, rfl, hox, g1, g2, g3, g4⟩; have HI6 := Aside0.mk (HI5.out.chg g1 g2 (.inl g3) g4); have HOX := Aside0.mk hox; have hcut := cutk Ax TL.length cx kk (by rw [HKK.out, HLT.out]; omega) (own_cap hox); clear hox g1 g2 g3 g4) | (at_builtin; refine print_append_row (w0 := w) (W := w6) w.heap.size rfl (.tmp 83) (.tmp 86) 29 33 .i16 2 rfl Try.underlying29 info33 (by decide) u8 xo (TL.take kk) Ax kk cx rfl rfl HI6.out.oo ((own_reads' HOX.out).take_ kk (by rw [HKK.out, HLT.out]; omega)) HI6.out.be (below_size HI6.out.be) (by have h1_ := HA.out; have h2_ := congrArg List.length HA.out.1; have h3_ := HKK.out; have h4_ := tk_le y; rw [List.length_append] at h2_; omega) ?_; intro v2 w7 g1 g2 g3 g4; rw [← HXO.out] at g1; have HI7 := Aside0.mk (HI6.out.appOut g1 g2 g3 g4); have HRX := Aside0.mk (own_reads' (own_move HOX.out (fun k hk => g3.block k (own_lt HOX.out k hk) (by intro e; have h1_ := own_base HOX.out k hk; have h2_ := own_lt HI5.out.oo k e.symm; omega)))); clear g1 g2 g3 g4))
            go_loopg [9, 14] (TL.length - kk) (fun kj v9 v14 wx => ∃ j : Nat, v9 = .int .i64 0 ∧ v14 = .int .i64 j ∧ wx = w7 ∧ Aside0 (kj + j = TL.length ∧ kk ≤ j))
            case atStart => exact ⟨kk, rfl, rfl, rfl, ⟨by have h1_ := HKK.out; have h2_ := HLT.out; rw [h2_]; omega, Nat.le_refl _⟩⟩
            case round =>
              obtain ⟨j, rfl, rfl, rfl, HJ⟩ := hrel
              by_cases hj : j < TL.length
              · obtain ⟨adx, ex, hcx⟩ := HRX.out.2.2 (by omega)
                have hxj := hcx j hj
                rw [HTL.out, takeL_zero y ST j (by have h1_ := HJ.out; have h2_ := HKK.out; omega)] at hxj
                subst ex
                have j0 : decide ((j : Int) < (TL.length : Int)) = true := decide_eq_true (by omega)
                have j1 : decide (j < TL.length) = true := decide_eq_true (by omega)
                have j2 : ((j : Int) < (TL.length : Int)) = True := eq_true (by omega)
                have HJL := Aside0.mk hj
                clear hj hcx
                go_wp2
                go_roundg (gk - 1)
                case measure => have h1_ := HJ.out; have h2_ := HJL.out; omega
                case rel => exact ⟨j + 1, rfl, (by rw [wrap64_nat1 (by have h1_ := HJL.out; have h2_ := HLT.out; have h3_ := tk_le y; omega)]), rfl, ⟨by have h1_ := HJ.out; have h2_ := HJL.out; omega, by have h1_ := HJ.out; omega⟩⟩
              · have j0 : decide ((j : Int) < (TL.length : Int)) = false := decide_eq_false (by omega)
                have j1 : decide (j < TL.length) = false := decide_eq_false (by omega)
                clear hj
                go_wp2
                go_roundg g0
                case measure => have := HA.out; have := HGO.out; omega
                case rel => exact ⟨_, _, _, S6, XI, XO, i + 1, rfl, rfl, rfl, (by rw [wrap64_nat1 (by have := HA.out; omega)]), HI7, ⟨by rw [HXO.out, HS6.out, HKK.out, HTL.out, takeL_take, List.append_assoc, List.take_append_drop, HXI.out, HST.out, HA.out.1, List.append_assoc], by have h1_ := HA.out; have h9_ := HGO.out; have h5_ := congrArg List.length HS6.out; rw [List.length_drop] at h5_; have h2_ := HF.out; have h3_ := congrArg List.length HST.out; have h4_ := congrArg List.length HXI.out; rw [List.length_append] at h3_ h4_; omega, by have h1_ := HA.out; have h9_ := HGO.out; have h5_ := congrArg List.length HS6.out; rw [List.length_drop] at h5_; have h2_ := HF.out; have h3_ := congrArg List.length HST.out; have h4_ := congrArg List.length HXI.out; rw [List.length_append] at h3_ h4_; omega, by have h1_ := HA.out; have h9_ := HGO.out; have h5_ := congrArg List.length HS6.out; rw [List.length_drop] at h5_; have h2_ := HF.out; have h3_ := congrArg List.length HST.out; have h4_ := congrArg List.length HXI.out; rw [List.length_append] at h3_ h4_; omega, by have h1_ := HA.out; have h2_ := HIB.out; have h3_ := HL.out; have h4_ := HGO.out; omega⟩⟩
        · clear hi
          obtain ⟨ad0, Ai, ci, x, e0, hx0, hC⟩ := HR.out i hi0
          have q0 : ((i : Int) < (n0 : Int)) = True := eq_true (by omega)
          have b0 : decide ((i : Int) < (n0 : Int)) = true := decide_eq_true (by omega)
          have b1 : decide (i < n0) = true := decide_eq_true (by omega)
          subst e0
          have hx1 := (HI.out.be.cell (World.block_lt_of_cell? w _ hx0)).trans hx0
          have HX0 := Aside0.mk hx0
          have HC0 := Aside0.mk hC
          have HC := Aside0.mk (Kd.C_below hC HI.out.be)
          clear hi0 hx0 hC
          have d0 : decide ((i : Int) < (n1 : Int)) = false := decide_eq_false (by omega)
          have d1 : decide (i < n1) = false := decide_eq_false (by omega)
          clear hi1
          by_cases hf : (x.length : Int) > 4096 - st.length
          · have HF := Aside0.mk hf
            clear hf
            go_wp2_with (first | (go_at_call 16; refine (pcm_Put.full w.heap.size pS 4096 st x vs Ai ci _ (below_size HI.out.be) HI.out.sp HI.out.os HC.out HF.out (by decide) (by decide) (by have := HA.out; omega)).mono ?_; rintro e w3 ⟨rfl, q3, hq⟩; have HI3 := Aside0.mk (show Inv w w3 pS vs u7 u8 st xi xo from hq ▸ HI.out.drewN q3); clear hq))
            go_roundg g0
            case measure => have := HA.out; have := HGO.out; omega
            case rel => exact ⟨_, _, _, st, xi, xo, i + 1, rfl, rfl, rfl, (by rw [wrap64_nat1 (by have := HA.out; omega)]), HI3, ⟨HA.out.1, by have h1_ := HA.out; have h9_ := HGO.out; omega, by have h1_ := HA.out; have h9_ := HGO.out; omega, by have h1_ := HA.out; have h9_ := HGO.out; omega, by have h1_ := HA.out; have h2_ := HIB.out; have h3_ := HL.out; have h4_ := HGO.out; omega⟩⟩
          · have HF := Aside0.mk hf
            clear hf
            obtain ⟨ST, hST⟩ : ∃ ST, ST = st ++ x := ⟨_, rfl⟩
            obtain ⟨XI, hXI⟩ : ∃ XI, XI = xi ++ x := ⟨_, rfl⟩
            have HST := Aside0.mk hST
            have HXI := Aside0.mk hXI
            clear hST hXI
            go_wp2_with (first | (go_at_call 16; refine (pcm_Put.to w.heap.size pS 4096 st x ST HST.out vs Ai ci _ (below_size HI.out.be) HI.out.sp HI.out.os HC.out HF.out (by decide) (by decide) (by have := HA.out; omega)).mono ?_; rintro e w3 ⟨rfl, vs3, g1, g2, g3, g4⟩; have HI3 := Aside0.mk (HI.out.chg g1 g2 g3 g4); have hx3 := (HI3.out.be.cell (World.block_lt_of_cell? w _ HX0.out)).trans HX0.out; have HC3 := Aside0.mk (Kd.C_below HC0.out HI3.out.be); clear g1 g2 g3 g4) | (at_builtin; refine print_append_row (w0 := w) (W := w3) w.heap.size rfl (.tmp 60) (.tmp 64) 29 33 .i16 2 rfl Try.underlying29 info33 (by decide) u7 xi x Ai x.length ci rfl rfl HI3.out.oi (reads_int HC3.out) HI3.out.be (below_size HI3.out.be) (by have := HA.out; have := HF.out; omega) ?_; intro v1 w4 g1 g2 g3 g4; rw [← HXI.out] at g1; have HI4 := Aside0.mk (HI3.out.appIn g1 g2 g3 g4); clear g1 g2 g3 g4))
            go_roundg g0
            case measure => have := HA.out; have := HGO.out; omega
            case rel => exact ⟨_, _, _, ST, XI, xo, i + 1, rfl, rfl, rfl, (by rw [wrap64_nat1 (by have := HA.out; omega)]), HI4, ⟨by rw [HXI.out, HST.out, HA.out.1, List.append_assoc], by have h1_ := HA.out; have h9_ := HGO.out; have h2_ := HF.out; have h3_ := congrArg List.length HST.out; have h4_ := congrArg List.length HXI.out; rw [List.length_append] at h3_ h4_; omega, by have h1_ := HA.out; have h9_ := HGO.out; have h2_ := HF.out; have h3_ := congrArg List.length HST.out; have h4_ := congrArg List.length HXI.out; rw [List.length_append] at h3_ h4_; omega, by have h1_ := HA.out; have h9_ := HGO.out; have h2_ := HF.out; have h3_ := congrArg List.length HST.out; have h4_ := congrArg List.length HXI.out; rw [List.length_append] at h3_ h4_; omega, by have h1_ := HA.out; have h2_ := HIB.out; have h3_ := HL.out; have h4_ := HGO.out; omega⟩⟩
      · have hi1 : i < n1 := by omega
        clear hi
        have b0 : decide ((i : Int) < (n0 : Int)) = false := decide_eq_false (by omega)
        have b1 : decide (i < n0) = false := decide_eq_false (by omega)
        clear hi0
        obtain ⟨ad1, y, e1, hy0, hyr0, hyr1⟩ := HN.out i hi1
        have q1 : ((i : Int) < (n1 : Int)) = True := eq_true (by omega)
        have d0 : decide ((i : Int) < (n1 : Int)) = true := decide_eq_true (by omega)
        have d1 : decide (i < n1) = true := decide_eq_true (by omega)
        subst e1
        have hyr := (HI.out.be.cell (World.block_lt_of_cell? w _ hy0)).trans hy0
        have hyw : wrap64 y = y := by unfold wrap64; omega
        have HY0 := Aside0.mk hy0
        have HYR := Aside0.mk (show 0 ≤ y ∧ y ≤ 255 from ⟨hyr0, hyr1⟩)
        clear hi1 hy0 hyr0 hyr1
        obtain ⟨TL, hTL⟩ : ∃ TL, TL = takeL y st := ⟨_, rfl⟩
        obtain ⟨S6, hS6⟩ : ∃ S6, S6 = st.drop (tk y) := ⟨_, rfl⟩
        obtain ⟨kk, hkk⟩ : ∃ kk, kk = min st.length (tk y) := ⟨_, rfl⟩
        have hlt : TL.length = tk y := by rw [hTL, takeL_length]
        have hmin : (if (TL.length : Int) < (st.length : Int) then (TL.length : Int) else (st.length : Int)) = (kk : Int) := by rw [hlt, hkk]; split <;> omega
        have hmin2 : (if TL.length < st.length then (TL.length : Int) else (st.length : Int)) = (kk : Int) := by rw [hlt, hkk]; split <;> omega
        obtain ⟨XO, hXO⟩ : ∃ XO, XO = xo ++ TL.take kk := ⟨_, rfl⟩
        have HTL := Aside0.mk hTL
        have HS6 := Aside0.mk hS6
        have HKK := Aside0.mk hkk
        have HLT := Aside0.mk hlt
        have HXO := Aside0.mk hXO
        clear hTL hS6 hkk hlt hXO
        go_wp2_with (first | (go_at_call 17; obtain ⟨Av, cv, eV⟩ := own_slice HI.out.os; subst eV; refine (pcm_Len.calls pS _ Av st.length cv 84 (0, 0) _ HI.out.sp).mono ?_; rintro e w5 ⟨rfl, q5, hq5⟩; have HI5 := Aside0.mk (show Inv w w5 pS _ _ _ _ _ _ from hq5 ▸ HI.out.drewN q5); have hy5 := (HI5.out.be.cell (World.block_lt_of_cell? w _ HY0.out)).trans HY0.out; clear hq5) | (go_at_call 18; refine (pcm_Take.to w.heap.size pS y 4096 st TL S6 HTL.out HS6.out _ _ HI5.out.sp HI5.out.os).mono ?_; rintro e w6 ⟨Ax, cx, vs6, rfl, hox, g1, g2, g3, g4⟩; have HI6 := Aside0.mk (HI5.out.chg g1 g2 (.inl g3) g4); have HOX := Aside0.mk hox; have hcut := cutk Ax TL.length cx kk (by rw [HKK.out, HLT.out]; omega) (own_cap hox); clear hox g1 g2 g3 g4) | (at_builtin; refine print_append_row (w0 := w) (W := w6) w.heap.size rfl (.tmp 83) (.tmp 86) 29 33 .i16 2 rfl Try.underlying29 info33 (by decide) u8 xo (TL.take kk) Ax kk cx rfl rfl HI6.out.oo ((own_reads' HOX.out).take_ kk (by rw [HKK.out, HLT.out]; omega)) HI6.out.be (below_size HI6.out.be) (by have h1_ := HA.out; have h2_ := congrArg List.length HA.out.1; have h3_ := HKK.out; have h4_ := tk_le y; rw [List.length_append] at h2_; omega) ?_; intro v2 w7 g1 g2 g3 g4; rw [← HXO.out] at g1; have HI7 := Aside0.mk (HI6.out.appOut g1 g2 g3 g4); have HRX := Aside0.mk (own_reads' (own_move HOX.out (fun k hk => g3.block k (own_lt HOX.out k hk) (by intro e; have h1_ := own_base HOX.out k hk; have h2_ := own_lt HI5.out.oo k e.symm; omega)))); clear g1 g2 g3 g4))
        go_loopg [9, 14] (TL.length - kk) (fun kj v9 v14 wx => ∃ j : Nat, v9 = .int .i64 0 ∧ v14 = .int .i64 j ∧ wx = w7 ∧ Aside0 (kj + j = TL.length ∧ kk ≤ j))
        case atStart => exact ⟨kk, rfl, rfl, rfl, ⟨by have h1_ := HKK.out; have h2_ := HLT.out; rw [h2_]; omega, Nat.le_refl _⟩⟩
        case round =>
          obtain ⟨j, rfl, rfl, rfl, HJ⟩ := hrel
          by_cases hj : j < TL.length
          · obtain ⟨adx, ex, hcx⟩ := HRX.out.2.2 (by omega)
            have hxj := hcx j hj
            rw [HTL.out, takeL_zero y st j (by have h1_ := HJ.out; have h2_ := HKK.out; omega)] at hxj
            subst ex
            have j0 : decide ((j : Int) < (TL.length : Int)) = true := decide_eq_true (by omega)
            have j1 : decide (j < TL.length) = true := decide_eq_true (by omega)
            have j2 : ((j : Int) < (TL.length : Int)) = True := eq_true (by omega)
            have HJL := Aside0.mk hj
            clear hj hcx
            go_wp2
            go_roundg (gk - 1)
            case measure => have h1_ := HJ.out; have h2_ := HJL.out; omega
            case rel => exact ⟨j + 1, rfl, (by rw [wrap64_nat1 (by have h1_ := HJL.out; have h2_ := HLT.out; have h3_ := tk_le y; omega)]), rfl, ⟨by have h1_ := HJ.out; have h2_ := HJL.out; omega, by have h1_ := HJ.out; omega⟩⟩
          · have j0 : decide ((j : Int) < (TL.length : Int)) = false := decide_eq_false (by omega)
            have j1 : decide (j < TL.length) = false := decide_eq_false (by omega)
            clear hj
            go_wp2
            go_roundg g0
            case measure => have := HA.out; have := HGO.out; omega
            case rel => exact ⟨_, _, _, S6, xi, XO, i + 1, rfl, rfl, rfl, (by rw [wrap64_nat1 (by have := HA.out; omega)]), HI7, ⟨by rw [HXO.out, HS6.out, HKK.out, HTL.out, takeL_take, List.append_assoc, List.take_append_drop]; exact HA.out.1, by have h1_ := HA.out; have h9_ := HGO.out; have h5_ := congrArg List.length HS6.out; rw [List.length_drop] at h5_; omega, by have h1_ := HA.out; have h9_ := HGO.out; have h5_ := congrArg List.length HS6.out; rw [List.length_drop] at h5_; omega, by have h1_ := HA.out; have h9_ := HGO.out; have h5_ := congrArg List.length HS6.out; rw [List.length_drop] at h5_; omega, by have h1_ := HA.out; have h2_ := HIB.out; have h3_ := HL.out; have h4_ := HGO.out; omega⟩⟩
    · have b0 : decide ((i : Int) < (n0 : Int)) = false := decide_eq_false (by omega)
      have b1 : decide (i < n0) = false := decide_eq_false (by omega)
      have d0 : decide ((i : Int) < (n1 : Int)) = false := decide_eq_false (by omega)
      have d1 : decide (i < n1) = false := decide_eq_false (by omega)
      clear hi
      obtain ⟨y, hy⟩ : ∃ y : Int, y = (st.length : Int) := ⟨_, rfl⟩
      have htk : tk (st.length : Int) = st.length := by have := HA.out; unfold tk; rw [if_neg (by omega)]; omega
      have hT : st = takeL (st.length : Int) st := by unfold takeL; rw [htk, Nat.sub_self, List.take_of_length_le (Nat.le_refl _)]; simp
      have hS : [] = st.drop (tk (st.length : Int)) := by rw [htk, List.drop_of_length_le (Nat.le_refl _)]
      obtain ⟨XO, hXO⟩ : ∃ XO, XO = xo ++ st := ⟨_, rfl⟩
      have hxe : xi = XO := by rw [hXO]; exact HA.out.1
      subst hxe
      have HXO := Aside0.mk hXO
      have HT := Aside0.mk hT
      have HS := Aside0.mk hS
      clear hT hS hXO htk hy y
      go_wp2_with (first | (go_at_call 17; obtain ⟨Av, cv, eV⟩ := own_slice HI.out.os; subst eV; refine (pcm_Len.calls pS _ Av st.length cv 84 (0, 0) _ HI.out.sp).mono ?_; rintro e w5 ⟨rfl, q5, hq5⟩; have HI5 := Aside0.mk (show Inv w w5 pS _ _ _ _ _ _ from hq5 ▸ HI.out.drewN q5); clear hq5) | (go_at_call 18; refine (pcm_Take.to w.heap.size pS (st.length : Int) 4096 st st [] HT.out HS.out _ _ HI5.out.sp HI5.out.os).mono ?_; rintro e w6 ⟨Ax, cx, vs6, rfl, hox, g1, g2, g3, g4⟩; have HI6 := Aside0.mk (HI5.out.chg g1 g2 (.inl g3) g4); have HOX := Aside0.mk hox; clear hox g1 g2 g3 g4) | (at_builtin; refine print_append_row (w0 := w) (W := w6) w.heap.size rfl (.tmp 102) (.tmp 106) 29 33 .i16 2 rfl Try.underlying29 info33 (by decide) u8 xo st Ax st.length cx rfl rfl HI6.out.oo (own_reads' HOX.out) HI6.out.be (below_size HI6.out.be) (by have h1_ := HA.out; have h2_ := congrArg List.length HXO.out; rw [List.length_append] at h2_; omega) ?_; intro v2 w7 g1 g2 g3 g4; rw [← HXO.out] at g1; have HI7 := Aside0.mk (HI6.out.appOut g1 g2 g3 g4); obtain ⟨Ai, ci, eI⟩ := own_slice HI7.out.oi; subst eI; obtain ⟨Ao, co, eO⟩ := own_slice HI7.out.oo; subst eO; clear g1 g2 g3 g4) | (go_at_call 19; refine (psalteryref04_Same.calls 400000 Ai ci xi Ao co xi true _ (own_C HI7.out.oi) (own_cap HI7.out.oi) (own_C HI7.out.oo) (own_cap HI7.out.oo) (SameLibPcm.Same_eq (by have := HA.out; omega) (by have := HA.out; omega))).mono ?_; rintro e w8 ⟨rfl, hb8⟩; have HB8 := Aside0.mk hb8; clear hb8))
      go_ret
      exact ⟨rfl, below_step HI7.out.be HB8.out.below⟩
theorem psalterylaw10_PcmOrder.calls (A0 : Option Addr) (c0 : Nat) (l0 : List (List Int)) (A1 : Option Addr) (c1 n1 : Nat) (w : World) (h0 : Kd.C (Kd.slice 33 (Kd.int .i16)) w A0 l0.length l0)
    (hnum : ∀ i : Nat, i < n1 → ∃ ad, ∃ x : Int, A1 = some ad ∧ w.cell? (ad.add i) = some (.int .u8 x) ∧ 0 ≤ x ∧ x ≤ 255) :
    Calls Try.prog 3 #[.slice A0 l0.length c0, .slice A1 n1 c1] w fun e w' => e = .returned (.bool true) ∧ Below w.heap.size w w' := by
  by_cases hl : 40 < l0.length ∨ 40 < n1
  · exact psalterylaw10_PcmOrder.long A0 c0 l0.length A1 c1 n1 w hl
  · refine psalterylaw10_PcmOrder.walk A0 c0 l0.length A1 c1 n1 w (by omega) (fun i hi => ?_) hnum
    obtain ⟨ad, A, c, e, hc, _, hC⟩ := at_L1 h0 (i : Int) (by omega) (by omega)
    rw [Int.toNat_natCast] at hc
    exact ⟨ad, A, c, _, e, hc, hC⟩
end Go.Proofs.Ytgmgdbcfgbgnlaa.PPcm
