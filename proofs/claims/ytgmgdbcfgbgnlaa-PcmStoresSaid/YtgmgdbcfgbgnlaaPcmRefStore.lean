/- The reference's store: Put and Take, each told whatever the store holds. -/
import Derived.Test.YtgmgdbcfgbgnlaaPcmOrderWalk
import Derived.Deep.RegionLaw
import Derived.Deep.RegionLawGrows
import Derived.Deep.RegionHeld3
import Derived.Deep.LoopGhost
import Derived.Deep.Upon
import Derived.WalkSpells
import Derived.Outline
namespace Go.Proofs.Ytgmgdbcfgbgnlaa.PPcm
open Go.RowKit Go.Proofs.YtgmgdbcfgbgnlaaW.PrintWords Go.Proofs.YtgmgdbcfgbgnlaaW.PrintLast Go.Proofs.YtgmgdbcfgbgnlaaW.PrintMore
attribute [local go_sem] max2_int min2_int max_two min_two max_three min_three max_four min_four   -- for this text's walks alone
set_option linter.unusedVariables false
set_option linter.unusedSimpArgs false
theorem ref_Put.full (p : Nat) (most : Int) (l x : List Int) (v : Value) (A : Option Addr) (c base : Nat) (W : World) (hs : W.heap[p]? = some (.cells #[.int .i64 most, v] 39 (0, 0))) (ho : W.ownsRow base 33 1 v l.length (nums .i16 l)) (h1 : most < (l.length : Int) + x.length) (hl : l.length ≤ 4096) (hx : x.length ≤ 5000) :
    Calls Try.prog 20 #[.pointer (some ⟨p, 0, none⟩), .slice A x.length c] W fun e w' => e = .returned (.int .i64 270) ∧ ∃ q, w' = W.drewN q := by
  obtain ⟨Av, cv, rfl⟩ := own_slice ho
  have c0 : W.cell? ⟨p, 0, none⟩ = some (.int .i64 most) := by simp [World.cell?, hs]
  have c1 : W.cell? ⟨p, 1, none⟩ = some (.slice Av l.length cv) := by simp [World.cell?, hs]
  have hw : IntKind.i64.wrap ((l.length : Int) + x.length) = (l.length : Int) + x.length := by rw [IntWalk.i64_in _ (by omega)]
  have hw2 : wrap64 ((l.length : Int) + x.length) = (l.length : Int) + x.length := by unfold wrap64; omega
  have t : decide (most < (l.length : Int) + x.length) = true := decide_eq_true h1
  clear hs ho h1 hx hl
  go_enter Try.func20, Try.ntmps20
  go_wp2
  repeat (go_quiet (fail); try go_wp2)
  go_ret
  exact ⟨rfl, _, rfl⟩
theorem own_fresh (W : World) (n : Nat) : ((W.drewN n).alloc (.cells #[] 33)).ownsRow W.heap.size 33 1 (.slice (some ⟨W.heap.size, 0, none⟩) 0 0) 0 [] :=
  ⟨by simp, .inr ⟨W.heap.size, 0, #[], rfl, Nat.le_refl _, by simp [World.alloc, World.drewN], Nat.le_refl _, Nat.zero_le _, by simp, by simp⟩⟩
theorem below_fresh (W : World) (n : Nat) (o : Obj) : Below W.heap.size W ((W.drewN n).alloc o) := below_alloc (pw_below_drewN (Below.refl _ _) n) o
theorem own_lower {w : World} {base b2 n : Nat} {e : TypeId} {size : Nat} {v : Value} {xs : List Value} (h : w.ownsRow base e size v n xs) (hb : b2 ≤ base) : w.ownsRow b2 e size v n xs := by
  obtain ⟨h1, h2⟩ := h
  refine ⟨h1, ?_⟩
  rcases h2 with h2 | ⟨g, cap, cur, rfl, hg, r⟩
  · exact .inl h2
  · exact .inr ⟨g, cap, cur, rfl, Nat.le_trans hb hg, r⟩
set_option maxRecDepth 100000 in
theorem ref_Put.put (p : Nat) (most : Int) (l x ST : List Int) (hST : ST = l ++ x) (v : Value) (A : Option Addr) (c base : Nat) (W : World) (hB : base ≤ W.heap.size) (hs : W.heap[p]? = some (.cells #[.int .i64 most, v] 39 (0, 0))) (ho : W.ownsRow base 33 1 v l.length (nums .i16 l)) (hx : Kd.C (Kd.int .i16) W A x.length x) (h1 : ¬ most < (l.length : Int) + x.length) (hl : l.length ≤ 4096) (hxl : x.length ≤ 5000) :
    Calls Try.prog 20 #[.pointer (some ⟨p, 0, none⟩), .slice A x.length c] W fun e w' => e = .returned (.int .i64 0) ∧ ∃ v', w'.heap[p]? = some (.cells #[.int .i64 most, v'] 39 (0, 0)) ∧ w'.ownsRow W.heap.size 33 1 v' ST.length (nums .i16 ST) ∧ Chg W w' p none := by
  obtain ⟨Av, cv, rfl⟩ := own_slice ho
  have c0 : W.cell? ⟨p, 0, none⟩ = some (.int .i64 most) := by simp [World.cell?, hs]
  have c1 : W.cell? ⟨p, 1, none⟩ = some (.slice Av l.length cv) := by simp [World.cell?, hs]
  have hw : IntKind.i64.wrap ((l.length : Int) + x.length) = (l.length : Int) + x.length := by rw [IntWalk.i64_in _ (by omega)]
  have hw2 : wrap64 ((l.length : Int) + x.length) = (l.length : Int) + x.length := by unfold wrap64; omega
  have t : decide (most < (l.length : Int) + x.length) = false := decide_eq_false h1
  have c1a : ∀ n o, ((W.drewN n).alloc o).cell? ⟨p, 1, none⟩ = some (.slice Av l.length cv) := fun n o => ((below_fresh W n o).cell (p := ⟨p, 1, none⟩) (blk_lt hs)).trans c1
  have HX := Aside0.mk (reads_int hx)
  have HO := Aside0.mk (own_reads' ho)
  have HS := Aside0.mk hs
  have HST := Aside0.mk hST
  clear hST
  have HL := Aside0.mk (show l.length ≤ 4096 ∧ x.length ≤ 5000 from ⟨hl, hxl⟩)
  clear hs ho h1 hx hl hxl hB
  go_enter Try.func20, Try.ntmps20
  go_wp2
  go_quiet (fail)
  go_wp2_with (first | (at_builtin; refine print_append_row (w0 := W) (W := (W.drewN nq).alloc (.cells #[] 33)) W.heap.size rfl (.tmp 19) (.tmp 23) 29 33 .i16 2 rfl Try.underlying29 info33 (by decide) (.slice (some ⟨W.heap.size, 0, none⟩) 0 0) [] l Av l.length cv rfl rfl (own_fresh W nq) (HO.out.below (below_fresh W nq _)) (below_fresh W nq _) (below_fresh W nq _).size (by have := HL.out; simp; omega) ?_; intro v1 w1 g1 g2 g3 g4; rw [List.nil_append] at g1; have HG1 := Aside0.mk g1; have HB1 := Aside0.mk g2; clear g1 g2 g3 g4) | (at_builtin; refine print_append_row (w0 := W) (W := w1) W.heap.size rfl (.tmp 24) (.tmp 25) 29 33 .i16 2 rfl Try.underlying29 info33 (by decide) v1 l x A x.length c rfl rfl HG1.out (HX.out.below HB1.out) HB1.out HB1.out.size (by have := HL.out; omega) ?_; intro v2 w2 g1 g2 g3 g4; rw [← HST.out] at g1; obtain ⟨A2, c2, e2⟩ := own_slice g1; subst e2; have hp2 := (g2.block p (blk_lt HS.out)).trans HS.out; have d1 : w2.cell? ⟨p, 1, none⟩ = some (.slice Av l.length cv) := (by simp [World.cell?, hp2]); have d2 : w2.frozen? ⟨p, 1, none⟩ = false := blk_frozen hp2 1; have HG2 := Aside0.mk g1; have HB2 := Aside0.mk g2; have HP2 := Aside0.mk hp2; clear g1 g2 g3 g4 hp2))
  go_ret
  have hl2 := blk_lt HS.out
  refine ⟨rfl, _, blk_set HP2.out 1 _, own_setCell (p := ⟨p, 1, none⟩) HG2.out (by intro e; have h3 := own_base HG2.out p e.symm; exact absurd hl2 (by omega)) _, Chg.set ⟨HB2.out.os, HB2.out.tape, HB2.out.output, HB2.out.size, fun i hi _ _ => HB2.out.block i hi⟩ 1 _⟩
theorem step_append_nothing {P : Program} {ops : Array Oper} {o : Oper} {a : Act} {w : World} {K : Act → World → Prop} {Q : Exit → Act → World → Prop} {E : Prop}
    (hg : o.guard = none) (s x : Operand) (t : TypeId) (hop : o.op = Op.call { callee := Callee.builtin Builtin.append, args := #[s, x], argTypes := #[t, t] })
    (e : TypeId) (i : TypeInfo) (h1 : P.underlying t = some (.slice e)) (h2 : P.info? e = some i) (base : Option Addr) (n cap : Nat) (hle : n ≤ cap) (hs : a.eval s = .slice base n cap)
    (A : Option Addr) (c : Nat) (hx : a.eval x = .slice A 0 c) (hK : K (a.put o.dst (.slice base n cap)) w) :
    if Region.wanted o (yielded ops a.tmps) = true then Oper.wp P o a w K Q else E := by
  have hw : Region.wanted o (yielded ops a.tmps) = true := by simp [Region.wanted, hg]
  rw [if_pos hw]
  have hsrc : Go.Src P i.size t (.slice A 0 c) 0 [] w := by
    cases A with
    | none => exact Go.Src.ofNil w h1 c
    | some b => exact Go.Src.ofSlice w h1 b 0 c [] (by simp) (fun j u h => by cases h) (fun u h => by cases h)
  have hrun := Go.run_append_nothing (P := P) w t t o.type e i h1 h2 base n cap hle (.slice A 0 c) hsrc
  unfold Oper.wp
  simp [execOp, hop, resolve, invoke, builtin, hs, hx, hrun, Result.andThen]
  exact hK
theorem ref_fin {W wr w2 : World} {p k cv c3 : Nat} {most : Int} {l out S6 : List Int} {Av A3 : Option Addr} {u5 : Value} {o : Obj} (hs : W.heap[p]? = some (.cells #[.int .i64 most, .slice Av l.length cv] 39 (0, 0))) (hoo : wr.ownsRow W.heap.size 33 1 u5 out.length (nums .i16 out)) (hb : Below W.heap.size W wr)
    (hg : ((wr.alloc o).drew).grownBy w2 none) (h6 : w2.ownsRow (wr.alloc o).drew.heap.size 33 1 (.slice A3 (l.length - k) c3) (l.length - k) (nums .i16 (l.drop k))) (hp2 : w2.heap[p]? = some (.cells #[.int .i64 most, .slice Av l.length cv] 39 (0, 0))) (hb2 : Below W.heap.size W w2) (hd : S6 = l.drop k) :
    ∃ A c v', Ending.returned u5 = .returned (.slice A out.length c) ∧ (w2.setCell ⟨p, 1, none⟩ (.slice A3 (l.length - k) c3)).ownsRow W.heap.size 33 1 (.slice A out.length c) out.length (nums .i16 out) ∧ (w2.setCell ⟨p, 1, none⟩ (.slice A3 (l.length - k) c3)).heap[p]? = some (.cells #[.int .i64 most, v'] 39 (0, 0)) ∧ (w2.setCell ⟨p, 1, none⟩ (.slice A3 (l.length - k) c3)).ownsRow W.heap.size 33 1 v' S6.length (nums .i16 S6) ∧ Chg W (w2.setCell ⟨p, 1, none⟩ (.slice A3 (l.length - k) c3)) p none := by
  obtain ⟨A, c, rfl⟩ := own_slice hoo
  have hpl := blk_lt hs
  have hl6 : S6.length = l.length - k := by rw [hd, List.length_drop]
  refine ⟨A, c, _, rfl, own_setCell (p := ⟨p, 1, none⟩) (own_move hoo fun j hj => ?_) (by intro e; have h3 := own_base hoo p e.symm; omega) _, blk_set hp2 1 _, ?_, Chg.set ⟨hb2.os, hb2.tape, hb2.output, hb2.size, fun i hi _ _ => hb2.block i hi⟩ 1 _⟩
  · have h3 := own_lt hoo j hj
    exact (hg.block j (by have := (below_drew1 (below_alloc (Below.refl wr.heap.size wr) o)).size; omega) (by simp)).trans ((below_drew1 (below_alloc (Below.refl wr.heap.size wr) o)).block j h3)
  · rw [hl6, hd]
    have h7 := own_lower h6 (b2 := W.heap.size) (below_drew1 (below_alloc hb o)).size
    exact own_setCell (p := ⟨p, 1, none⟩) h7 (by intro e; have h3 := own_base h6 p e.symm; have h4 := (below_drew1 (below_alloc hb o)).size; omega) _
theorem ref_fin0 {W wr : World} {p cv : Nat} {most : Int} {l out S6 : List Int} {Av : Option Addr} {u5 : Value} (hs : W.heap[p]? = some (.cells #[.int .i64 most, .slice Av l.length cv] 39 (0, 0))) (hoo : wr.ownsRow W.heap.size 33 1 u5 out.length (nums .i16 out)) (hb : Below W.heap.size W wr) (hd : S6 = []) :
    ∃ A c v', Ending.returned u5 = .returned (.slice A out.length c) ∧ ((wr.alloc (.cells #[] 33)).drew.setCell ⟨p, 1, none⟩ (.slice (some ⟨wr.heap.size, 0, none⟩) 0 0)).ownsRow W.heap.size 33 1 (.slice A out.length c) out.length (nums .i16 out) ∧ ((wr.alloc (.cells #[] 33)).drew.setCell ⟨p, 1, none⟩ (.slice (some ⟨wr.heap.size, 0, none⟩) 0 0)).heap[p]? = some (.cells #[.int .i64 most, v'] 39 (0, 0)) ∧ ((wr.alloc (.cells #[] 33)).drew.setCell ⟨p, 1, none⟩ (.slice (some ⟨wr.heap.size, 0, none⟩) 0 0)).ownsRow W.heap.size 33 1 v' S6.length (nums .i16 S6) ∧ Chg W ((wr.alloc (.cells #[] 33)).drew.setCell ⟨p, 1, none⟩ (.slice (some ⟨wr.heap.size, 0, none⟩) 0 0)) p none := by
  obtain ⟨A, c, rfl⟩ := own_slice hoo
  have hpl := blk_lt hs
  subst hd
  have hb2 : Below W.heap.size W (wr.alloc (.cells #[] 33)).drew := below_drew1 (below_alloc hb _)
  have hp2 := (hb2.block p hpl).trans hs
  have hx : Below wr.heap.size wr (wr.alloc (.cells #[] 33)).drew := below_drew1 (below_alloc (Below.refl _ _) _)
  have h6 : (wr.alloc (.cells #[] 33)).drew.ownsRow W.heap.size 33 1 (.slice (some ⟨wr.heap.size, 0, none⟩) 0 0) 0 [] := own_lower (own_fresh wr 0) (below_size hb)
  refine ⟨A, c, _, rfl, own_setCell (p := ⟨p, 1, none⟩) (own_move hoo fun j hj => hx.block j (own_lt hoo j hj)) (by intro e; have h3 := own_base hoo p e.symm; omega) _, blk_set hp2 1 _, ?_, Chg.set ⟨hb2.os, hb2.tape, hb2.output, hb2.size, fun i hi _ _ => hb2.block i hi⟩ 1 _⟩
  exact own_setCell (p := ⟨p, 1, none⟩) h6 (by intro e; have h3 := own_base h6 p e.symm; omega) _
theorem reads_one (w : World) (z : Int) : ReadsInt (w.alloc (.cells #[.int .i16 z] 33)) .i16 (some ⟨w.heap.size, 0, none⟩) 1 [z] :=
  ⟨rfl, by decide, fun _ => ⟨_, rfl, fun j hj => by
    obtain rfl : j = 0 := by omega
    rw [add_plain, blk_cell (blk_new w _)]; rfl⟩⟩
theorem take_next {TL : List Int} {j : Nat} (h : j < TL.length) : TL.take j ++ [TL.getD j 0] = TL.take (j + 1) := by
  rw [List.take_add_one, List.getD_eq_getElem?_getD, List.getElem?_eq_getElem h]; rfl
theorem takeL_at (n : Int) (l : List Int) (j : Nat) (h : j < tk n) (hl : j < l.length) : (takeL n l).getD j 0 = l.getD j 0 := by
  unfold takeL
  rw [List.getD_eq_getElem?_getD, List.getElem?_append_left (by rw [List.length_take]; omega), List.getElem?_take, if_pos h, List.getD_eq_getElem?_getD]
set_option maxHeartbeats 4000000 in
set_option maxRecDepth 100000 in
theorem ref_Take.take (p : Nat) (n most : Int) (l TL S6 : List Int) (hT : TL = takeL n l) (hS : S6 = l.drop (tk n)) (v : Value) (base : Nat) (W : World) (hs : W.heap[p]? = some (.cells #[.int .i64 most, v] 39 (0, 0))) (ho : W.ownsRow base 33 1 v l.length (nums .i16 l)) (hl : l.length ≤ 4096) :
    Calls Try.prog 21 #[.pointer (some ⟨p, 0, none⟩), .int .i64 n] W fun e w' => ∃ A c v', e = .returned (.slice A TL.length c) ∧ w'.ownsRow W.heap.size 33 1 (.slice A TL.length c) TL.length (nums .i16 TL) ∧ w'.heap[p]? = some (.cells #[.int .i64 most, v'] 39 (0, 0)) ∧ w'.ownsRow W.heap.size 33 1 v' S6.length (nums .i16 S6) ∧ Chg W w' p none := by
  obtain ⟨Av, cv, rfl⟩ := own_slice ho
  obtain ⟨mm, hmm⟩ : ∃ mm : Int, mm = if (4096 : Int) < n then 4096 else n := ⟨_, rfl⟩
  obtain ⟨m, hm⟩ : ∃ m, m = tk n := ⟨_, rfl⟩
  have hmin : (if (4096 : Int) < n then 4096 else n) = mm := hmm.symm
  have hmax : (if mm < (0 : Int) then 0 else mm) = (m : Int) := by rw [hm, tk, ← hmm]; split <;> omega
  have HM := Aside0.mk hm
  have HL := Aside0.mk hl
  have HTL := Aside0.mk (show TL.length = m by rw [hT, takeL_length, hm])
  have HT := Aside0.mk hT
  have HS6 := Aside0.mk hS
  have HO := Aside0.mk (own_reads' ho)
  have HOW := Aside0.mk ho
  have HS := Aside0.mk hs
  clear hm hl hT hS ho hs hmm
  go_enter Try.func21, Try.ntmps21
  go_wp2
  go_loopg [5, 6] m (fun kq v5 v6 wx => ∃ (vo : Value) (out : List Int) (j : Nat), v5 = vo ∧ v6 = .int .i64 j ∧ Aside0 (wx.ownsRow W.heap.size 33 1 vo out.length (nums .i16 out)) ∧ Aside0 (Below W.heap.size W wx) ∧ Aside0 (out = TL.take j ∧ kq + j = m))
  case atStart => exact ⟨_, [], 0, rfl, rfl, ⟨own_nil _ _ _ _⟩, ⟨Below.refl _ _⟩, ⟨by simp, by omega⟩⟩
  case round =>
    obtain ⟨u5, out, j, rfl, rfl, HOO, HB, HJ⟩ := hrel
    have hpr : wr.heap[p]? = some (.cells #[.int .i64 most, .slice Av l.length cv] 39 (0, 0)) := (HB.out.block p (blk_lt HS.out)).trans HS.out
    have HPR := Aside0.mk hpr
    have c1 : wr.cell? ⟨p, 1, none⟩ = some (.slice Av l.length cv) := by simp [World.cell?, hpr]
    clear hpr
    by_cases hj : j < m
    · have j0 : decide ((j : Int) < (m : Int)) = true := decide_eq_true (by omega)
      have j1 : decide (j < m) = true := decide_eq_true (by omega)
      have HJL := Aside0.mk hj
      have HOL : Aside0 ((out.length + 1) * 2 ≤ 140737488355328) := ⟨by rw [HJ.out.1, List.length_take]; have h1_ := HM.out; have h2_ := tk_le n; have h3_ := HTL.out; omega⟩
      clear hj
      by_cases hjl : j < l.length
      · have l0 : decide ((j : Int) < (l.length : Int)) = true := decide_eq_true (by omega)
        have l1 : decide (j < l.length) = true := decide_eq_true (by omega)
        have l2 : ((j : Int) < (l.length : Int)) = True := eq_true (by omega)
        have hrd := HO.out.below HB.out
        obtain ⟨ad, ea, hc⟩ := hrd.2.2 (by omega)
        have hcj := hc j hjl
        have HJ2 := Aside0.mk hjl
        obtain ⟨z, hz⟩ : ∃ z, z = l.getD j 0 := ⟨_, rfl⟩
        rw [← hz] at hcj
        have HZ : Aside0 (z = TL.getD j 0) := ⟨by rw [hz, HT.out, takeL_at n l j (by have h1_ := HJL.out; have h2_ := HM.out; omega) hjl]⟩
        clear hz
        subst ea
        clear hrd hc hjl
        go_wp2_with (first | (at_builtin; refine print_append_row (w0 := W) (W := wr.alloc (.cells #[.int .i16 z] 33)) W.heap.size rfl (.tmp 30) (.tmp 32) 29 33 .i16 2 rfl Try.underlying29 info33 (by decide) u5 out [z] (some ⟨wr.heap.size, 0, none⟩) 1 1 rfl rfl (own_move HOO.out (fun k hk => (below_alloc (Below.refl wr.heap.size wr) _).block k (own_lt HOO.out k hk))) (reads_one wr z) (below_alloc HB.out _) (below_alloc HB.out _).size HOL.out ?_; intro v1 w1 g1 g2 g3 g4; have HG1 := Aside0.mk g1; have HB1 := Aside0.mk g2; clear g1 g2 g3 g4))
        go_roundg (gk - 1)
        case measure => have := HJ.out; have := HJL.out; omega
        case rel => exact ⟨v1, out ++ [z], j + 1, rfl, (by rw [wrap64_nat1 (by have h1_ := HJL.out; have h2_ := HM.out; have h3_ := tk_le n; omega)]), HG1, HB1, ⟨by rw [HJ.out.1, HZ.out, take_next (by have := HJL.out; have := HTL.out; omega)], by have := HJ.out; have := HJL.out; omega⟩⟩
      · have l0 : decide ((j : Int) < (l.length : Int)) = false := decide_eq_false (by omega)
        have l1 : decide (j < l.length) = false := decide_eq_false (by omega)
        have HZ : Aside0 ((0 : Int) = TL.getD j 0) := ⟨by rw [HT.out, takeL_zero n l j (by omega)]⟩
        clear hjl
        go_wp2_with (first | (at_builtin; refine print_append_row (w0 := W) (W := wr.alloc (.cells #[.int .i16 0] 33)) W.heap.size rfl (.tmp 30) (.tmp 32) 29 33 .i16 2 rfl Try.underlying29 info33 (by decide) u5 out [0] (some ⟨wr.heap.size, 0, none⟩) 1 1 rfl rfl (own_move HOO.out (fun k hk => (below_alloc (Below.refl wr.heap.size wr) _).block k (own_lt HOO.out k hk))) (reads_one wr 0) (below_alloc HB.out _) (below_alloc HB.out _).size HOL.out ?_; intro v1 w1 g1 g2 g3 g4; have HG1 := Aside0.mk g1; have HB1 := Aside0.mk g2; clear g1 g2 g3 g4))
        go_roundg (gk - 1)
        case measure => have := HJ.out; have := HJL.out; omega
        case rel => exact ⟨v1, out ++ [0], j + 1, rfl, (by rw [wrap64_nat1 (by have h1_ := HJL.out; have h2_ := HM.out; have h3_ := tk_le n; omega)]), HG1, HB1, ⟨by rw [HJ.out.1, HZ.out, take_next (by have := HJL.out; have := HTL.out; omega)], by have := HJ.out; have := HJL.out; omega⟩⟩
    · have j0 : decide ((j : Int) < (m : Int)) = false := decide_eq_false (by omega)
      have j1 : decide (j < m) = false := decide_eq_false (by omega)
      have hout : out = TL := by rw [HJ.out.1, List.take_of_length_le (by have := HTL.out; omega)]
      subst hout
      clear hj
      obtain ⟨kk, hkk⟩ : ∃ kk, kk = min m l.length := ⟨_, rfl⟩
      have hmin2 : (if (l.length : Int) < (m : Int) then (l.length : Int) else (m : Int)) = (kk : Int) := by rw [hkk]; split <;> omega
      have hmin3 : (if l.length < m then (l.length : Int) else (m : Int)) = (kk : Int) := by rw [hkk]; split <;> omega
      have hd6 : S6 = l.drop kk := by
        rw [HS6.out, ← HM.out, hkk]
        rcases Nat.le_total m l.length with h | h
        · rw [Nat.min_eq_left h]
        · rw [Nat.min_eq_right h, List.drop_of_length_le h, List.drop_of_length_le (Nat.le_refl _)]
      obtain ⟨i0, hi0, hz⟩ := Option.map_eq_some_iff.1 info33
      simp only [Prod.mk.injEq] at hz
      have hsz := hz.2.1
      clear hz
      have hcap := own_cap HOW.out
      obtain ⟨A2, hA2, hA3⟩ : ∃ A2, A2 = (if cv = kk then Av else Av.map (·.add kk)) ∧ ∀ W, (Instr.slice 29 (.slice Av l.length cv) (some (.int .i64 (kk : Int))) none none).run Try.prog W = .ok (.slice A2 (l.length - kk) (cv - kk)) W := by
        refine ⟨_, rfl, fun W => ?_⟩
        have := cut_from 29 33 .i64 Try.underlying29 hi0 1 hsz Av l.length cv kk (by omega) (by omega) W
        rw [this, Int.toNat_natCast]; simp
      have HA2 := Aside0.mk hA2
      have HKK := Aside0.mk hkk
      have HD6 := Aside0.mk hd6
      have c1a : ∀ n o, ((wr.drewN n).alloc o).cell? ⟨p, 1, none⟩ = some (.slice Av l.length cv) := fun n o => ((below_fresh wr n o).cell (p := ⟨p, 1, none⟩) (blk_lt HPR.out)).trans c1
      have c1b : ∀ o, (wr.alloc o).cell? ⟨p, 1, none⟩ = some (.slice Av l.length cv) := fun o => c1a 0 o
      clear hA2 hkk hd6 hcap
      by_cases hrest : kk < l.length
      · obtain ⟨ad0, ea0, hca0⟩ := HO.out.2.2 (by omega)
        have hnews : ∀ w', Below W.heap.size W w' → ∀ j u, (nums .i16 (l.drop kk))[j]? = some u → w'.cell? ((ad0.add kk).add j) = some u := fun w' hb j u hj => by
          have hjl : kk + j < l.length := by
            have := (List.getElem?_eq_some_iff.1 hj).1
            rw [nums_length, List.length_drop] at this; omega
          have h1 := (hb.cell (World.block_lt_of_cell? W _ (hca0 (kk + j) hjl))).trans (hca0 (kk + j) hjl)
          rw [Addr.add_add, h1]
          rw [nums, List.map_drop, List.getElem?_drop, List.getElem?_map, List.getElem?_eq_getElem hjl] at hj
          rw [List.getD_eq_getElem?_getD, List.getElem?_eq_getElem hjl]
          exact hj
        have eA : A2 = some (ad0.add kk) := by
          have hc0 := own_cap HOW.out
          rw [HA2.out, if_neg (by omega), ea0]; rfl
        subst eA
        subst ea0
        have HNW := Aside0.mk hnews
        have HR1 := Aside0.mk hrest
        have hz0 : i0.zero = some (.int .i16 0) ∧ i0.bytes = 2 := by
          obtain ⟨i1, hi1, hz1⟩ := Option.map_eq_some_iff.1 info33
          rw [hi0] at hi1; obtain rfl := Option.some.inj hi1
          simp only [Prod.mk.injEq] at hz1; exact ⟨hz1.1, hz1.2.2⟩
        have HZ0 := Aside0.mk hz0
        clear hnews hrest hca0 hz0
        go_wp2
        go_region_law (first | (refine step_append_grows rfl (.tmp 35) (.tmp 47) 29 rfl 33 i0 (.int .i16 0) 1 2 Try.underlying29 hi0 HZ0.out.1 hsz HZ0.out.2 rfl (by decide) (some ⟨wr.heap.size, 0, none⟩) 0 0 [] rfl (fun h => by cases h) rfl (fun b hb j u hj => by cases hj) (ad0.add kk) (l.length - kk) (cv - kk) (nums .i16 (l.drop kk)) rfl (by rw [nums_length, List.length_drop]; omega) (HNW.out _ (below_drew1 (below_alloc HB.out _))) (by intro u hu; rw [nums] at hu; obtain ⟨x, _, rfl⟩ := List.mem_map.1 hu; rfl) (by have := HR1.out; omega) (by have := HL.out; unfold maxLen; omega) (by have := HL.out; omega) ?_; intro v2 w2 g1 g2; simp only [Nat.zero_add, List.nil_append] at g1; have hb2 := (below_drew1 (below_alloc HB.out (.cells #[] 33))).grown g2 (below_drew1 (below_alloc HB.out (.cells #[] 33))).size (fun k e => by cases e); have hp2 := (hb2.block p (blk_lt HS.out)).trans HS.out; have d1 : w2.cell? ⟨p, 1, none⟩ = some (.slice (some ad0) l.length cv) := (by simp [World.cell?, hp2]); have d2 : w2.frozen? ⟨p, 1, none⟩ = false := blk_frozen hp2 1; have HG2 := Aside0.mk g1; have HGR := Aside0.mk g2; have HB2 := Aside0.mk hb2; have HP2 := Aside0.mk hp2; obtain ⟨A3, c3, e3⟩ := own_slice g1; subst e3; clear g1 g2 hb2 hp2))
        all_goals (go_wp2; go_ret; exact ref_fin HS.out HOO.out HB.out HGR.out HG2.out HP2.out HB2.out HD6.out)
      · have hkl : l.length - kk = 0 := by omega
        have hk2 : kk = l.length := by omega
        have HK2 := Aside0.mk hk2
        have HI0 := Aside0.mk hi0
        rw [hkl] at hA3
        have hcap := own_cap HOW.out
        have HCP := Aside0.mk hcap
        clear hrest hkl hk2 hcap
        have d1 : ∀ o, ((wr.alloc o).drew).cell? ⟨p, 1, none⟩ = some (.slice Av l.length cv) := fun o => c1b o
        have hp2 : ∀ o, ((wr.alloc o).drew).heap[p]? = some (.cells #[.int .i64 most, .slice Av l.length cv] 39 (0, 0)) := fun o => ((below_drew1 (below_alloc HB.out o)).block p (blk_lt HS.out)).trans HS.out
        have d2 : ∀ o, ((wr.alloc o).drew).frozen? ⟨p, 1, none⟩ = false := fun o => blk_frozen (hp2 o) 1
        have HP2 := Aside0.mk hp2
        clear hp2
        go_wp2
        go_region_law (first | (refine step_append_nothing rfl (.tmp 35) (.tmp 47) 29 rfl 33 i0 Try.underlying29 HI0.out (some ⟨wr.heap.size, 0, none⟩) 0 0 (Nat.le_refl _) rfl A2 (cv - kk) rfl ?_))
        all_goals (go_wp2; go_ret; exact ref_fin0 HS.out HOO.out HB.out (by rw [HD6.out, HK2.out, List.drop_of_length_le (Nat.le_refl _)]))
end Go.Proofs.Ytgmgdbcfgbgnlaa.PPcm
