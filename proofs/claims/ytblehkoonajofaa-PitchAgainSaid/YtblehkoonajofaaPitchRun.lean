/- Pitch: what the hunter's and the comb's inner calls come to. -/
import Derived.Test.YtblehkoonajofaaPPitchx0
import Derived.Test.YtblehkoonajofaaPPitchx1
import Derived.Test.YtblehkoonajofaaPPitchx2
import Derived.Test.YtblehkoonajofaaPPitchx3
import Derived.Test.YtblehkoonajofaaPPitchx4
import Derived.Test.YtblehkoonajofaaWZeros
import Derived.WalkSpells
import Derived.Outline
import Derived.Deep.LoopGhost
import Derived.Deep.RegionLaw
import Derived.Deep.RegionHeld3
import Derived.StillTailTactics
import Derived.Lib.SliceRun
import Derived.Laws.CopyOwn
namespace Go.Proofs.Ytblehkoonajofaa.PPitch
open Go.RowKit Go.Proofs.YtblehkoonajofaaW.PrintWords Go.Proofs.YtblehkoonajofaaW.PrintLast Go.Proofs.YtblehkoonajofaaW.PrintMore
attribute [local go_sem] max2_int min2_int max_two min_two max_three min_three max_four min_four   -- for this text's walks alone
set_option linter.unusedVariables false
set_option linter.unusedSimpArgs false
theorem own_lower {w : World} {base b2 n : Nat} {e : TypeId} {size : Nat} {v : Value} {xs : List Value} (h : w.ownsRow base e size v n xs) (hb : b2 ≤ base) : w.ownsRow b2 e size v n xs := by
  obtain ⟨h1, h2⟩ := h
  refine ⟨h1, ?_⟩
  rcases h2 with h2 | ⟨g, cap, cur, rfl, hg, r⟩
  · exact .inl h2
  · exact .inr ⟨g, cap, cur, rfl, Nat.le_trans hb hg, r⟩
theorem info2 : (Try.prog.info? 2).map (fun i => (i.zero, i.size, i.bytes)) = some (some (.int .i64 0), 1, 8) := by kernel_rfl
theorem cut2 (A : Option Addr) (n c k : Nat) (h : k ≤ n) (hc : n ≤ c) : ∀ W : World, (Instr.slice 26 (.slice A n c) none (some (.int .i64 (k : Int))) none).run Try.prog W = .ok (.slice A k c) W := fun W => by
  obtain ⟨i0, hi0, _⟩ := Option.map_eq_some_iff.1 info2
  have := cut_to 26 2 .i64 Try.underlying26 hi0 A n c k (by omega) (by omega) hc W
  rw [Int.toNat_natCast] at this; exact this
theorem slices_Grow.nil (m : Nat) (h0 : 0 < m) (h1 : m ≤ 1000) (w : World) :
    Calls Try.prog 104 #[.slice none 0 0, .int .i64 m] w fun e w' => ∃ A c, e = .returned (.slice A 0 c) ∧ w'.ownsRow w.heap.size 2 1 (.slice A 0 c) 0 [] ∧ Below w.heap.size w w' := by
  have t0 : decide ((m : Int) < 0) = false := decide_eq_false (by omega)
  have t1 : decide ((0 : Int) < (m : Int)) = true := decide_eq_true (by omega)
  have t2 : decide (0 < m) = true := decide_eq_true h0
  have hw : wrap64 (m : Int) = (m : Int) := by unfold wrap64; omega
  have HM := Aside0.mk h1
  have hcut : ∀ W : World, (Instr.slice 26 (.slice none 0 0) none (some (.int .i64 0)) none).run Try.prog W = .ok (.slice none 0 0) W := cut2 none 0 0 0 (Nat.le_refl _) (Nat.le_refl _)
  go_enter Try.func104, Try.ntmps104
  go_wp2_with (first | (at_builtin; refine Kd.R_append_zeros (Kd.int .i64) (w0 := w) (W := w) w.heap.size rfl (.tmp 20) (.tmp 21) 26 3 2 (.int .i64 0) 8 rfl Try.underlying26 Try.underlying3 info2 rfl (by decide) (by decide) (.slice none 0 0) [] 0 (kx := .i64) (m : Int) (fun k => w.heap.size ≤ k) rfl rfl rfl (fun _ h => h) (Kd.R_of_own (own_nil _ _ _ _) (fun k h => by simp [Value.ownBlock] at h)) (by omega) (Below.refl _ _) (Nat.le_refl _) (by have := HM.out; simp; omega) ?_; intro v1 w1 g1 g2 g3 g4; obtain ⟨A1, c1, e1⟩ := Kd.R_slice g1; subst e1; have HG := Aside0.mk (Kd.own_of_R g1); have HB := Aside0.mk g2; have hc2 := cut2 A1 (([] : List Int) ++ List.replicate (m : Int).toNat 0).length c1 0 (Nat.zero_le _) (by have h_ := (Kd.R_reads' g1).2.1; exact h_); clear g1 g2 g3 g4))
  go_ret
  exact ⟨A1, c1, rfl, by have h_ := own_take HG.out (Nat.zero_le _); simpa using h_, HB.out⟩
set_option maxHeartbeats 2000000 in
theorem slices_Concat.two (g : Nat) (A0 A1 : Option Addr) (c0 c1 n1 : Nat) (X0 X1 all : List Int) (hall : all = X0 ++ X1) (w : World) (h0 : w.cell? ⟨g, 0, none⟩ = some (.slice A0 79 c0)) (h1 : w.cell? ⟨g, 1, none⟩ = some (.slice A1 n1 c1)) (r0 : ReadsInt w .i64 A0 79 X0) (r1 : ReadsInt w .i64 A1 n1 X1) (hn : n1 ≤ 120) :
    Calls Try.prog 83 #[.slice (some ⟨g, 0, none⟩) 2 2] w fun e w' => ∃ A c, e = .returned (.slice A all.length c) ∧ w'.ownsRow w.heap.size 2 1 (.slice A all.length c) all.length (nums .i64 all) ∧ Below w.heap.size w w' := by
  have HX := Aside0.mk (show X0.length = 79 ∧ X1.length = n1 ∧ n1 ≤ 120 from ⟨r0.1, r1.1, hn⟩)
  have HALL := Aside0.mk hall
  clear hall
  have R0 := Aside0.mk r0
  have R1 := Aside0.mk r1
  have H0 := Aside0.mk h0
  have H1 := Aside0.mk h1
  have hw2 : wrap64 ((79 : Int) + (n1 : Int)) = (79 : Int) + (n1 : Int) := by unfold wrap64; omega
  have t2 : decide ((79 : Int) + (n1 : Int) < 0) = false := decide_eq_false (by omega)
  clear r0 r1
  go_enter Try.func83, Try.ntmps83
  go_wp2
  go_loopg [3, 5, 11] 3 (fun kq v3 v5 v11 w' => ∃ i : Nat, v11 = .int .i64 i ∧ v3 = .int .i64 (if i = 0 then 0 else if i = 1 then 79 else 79 + n1) ∧ w = w' ∧ Aside0 (kq + i = 3 ∧ i ≤ 2))
  case atStart => exact ⟨0, rfl, rfl, rfl, ⟨rfl, by decide⟩⟩
  case round =>
    obtain ⟨i, rfl, rfl, rfl, HI⟩ := hrel
    have hi3 : i = 0 ∨ i = 1 ∨ i = 2 := by have := HI.out; omega
    rcases hi3 with rfl | rfl | rfl
    · go_wp2
      go_roundg 2
      case rel => exact ⟨1, rfl, rfl, rfl, ⟨rfl, by decide⟩⟩
      case measure => have := HI.out; omega
    · go_wp2
      go_roundg 1
      case rel => exact ⟨2, rfl, rfl, rfl, ⟨rfl, by decide⟩⟩
      case measure => have := HI.out; omega
    · obtain ⟨mm, hmm⟩ : ∃ mm : Nat, (mm : Int) = (79 : Int) + (n1 : Int) := ⟨79 + n1, by omega⟩
      have HMM := Aside0.mk hmm
      clear hmm
      go_wp2_with (first | (go_at_call 104; rw [← HMM.out]; refine (slices_Grow.nil mm (by have := HMM.out; omega) (by have := HMM.out; have := HX.out; omega) _).mono ?_; rintro e w1 ⟨Ag, cg, rfl, hg, hb⟩; have HG := Aside0.mk hg; have HB := Aside0.mk hb; clear hg hb))
      go_loopg [6, 8, 27] 3 (fun kq v6 v8 v27 w' => ∃ (i : Nat) (v : Value) (xs : List Int), v27 = .int .i64 i ∧ v6 = v ∧ Aside0 (w'.ownsRow w.heap.size 2 1 v xs.length (nums .i64 xs)) ∧ Aside0 (Below w.heap.size w w') ∧ Aside0 (kq + i = 3 ∧ i ≤ 2) ∧ Aside0 (xs = if i = 0 then [] else if i = 1 then X0 else X0 ++ X1))
      case atStart => exact ⟨0, _, [], rfl, rfl, HG, HB, ⟨rfl, by decide⟩, ⟨rfl⟩⟩
      case round =>
        obtain ⟨i, v, xs, rfl, rfl, HO, HBW, HJ, HXS⟩ := hrel
        have hi3 : i = 0 ∨ i = 1 ∨ i = 2 := by have := HJ.out; omega
        have k0 := (HBW.out.cell (World.block_lt_of_cell? w _ H0.out)).trans H0.out
        have k1 := (HBW.out.cell (World.block_lt_of_cell? w _ H1.out)).trans H1.out
        rcases hi3 with rfl | rfl | rfl
        · go_wp2_with (first | (at_builtin; refine print_append_row (w0 := w) (W := wr) w.heap.size rfl (.tmp 31) (.tmp 32) 26 2 .i64 8 rfl Try.underlying26 info2 (by decide) _ xs X0 A0 79 c0 rfl rfl HO.out (R0.out.below HBW.out) HBW.out (below_size HBW.out) (by rw [HXS.out]; simp) ?_; intro v2 w2 g1 g2 g3 g4; have HO2 := Aside0.mk g1; have HB2 := Aside0.mk g2; clear g1 g2 g3 g4))
          go_roundg 2
          case rel => exact ⟨1, _, _, rfl, rfl, HO2, HB2, ⟨rfl, by decide⟩, ⟨by rw [HXS.out]; simp⟩⟩
          case measure => have := HJ.out; omega
        · go_wp2_with (first | (at_builtin; refine print_append_row (w0 := w) (W := wr) w.heap.size rfl (.tmp 31) (.tmp 32) 26 2 .i64 8 rfl Try.underlying26 info2 (by decide) _ xs X1 A1 n1 c1 rfl rfl HO.out (R1.out.below HBW.out) HBW.out (below_size HBW.out) (by rw [HXS.out]; have := HX.out; simp; omega) ?_; intro v2 w2 g1 g2 g3 g4; have HO2 := Aside0.mk g1; have HB2 := Aside0.mk g2; clear g1 g2 g3 g4))
          go_roundg 1
          case rel => exact ⟨2, _, _, rfl, rfl, HO2, HB2, ⟨rfl, by decide⟩, ⟨by rw [HXS.out]; simp⟩⟩
          case measure => have := HJ.out; omega
        · obtain ⟨Av, cv, eV⟩ := own_slice HO.out
          subst eV
          have hxs : xs = all := by rw [HXS.out, HALL.out]; rfl
          subst hxs
          go_wp2
          go_ret
          exact ⟨Av, cv, rfl, HO.out, HBW.out⟩
/-- A block of 79 numbers: what came ahead. -/
def Past (w : World) (p ty : Nat) (P : List Int) : Prop := w.heap[p]? = some (.cells (nums .i64 P).toArray ty (0, 0)) ∧ P.length = 79
theorem Past.reads {w : World} {p ty : Nat} {P : List Int} (h : Past w p ty P) : ReadsInt w .i64 (some ⟨p, 0, none⟩) 79 P := by
  refine ⟨h.2, by decide, fun _ => ⟨_, rfl, fun j hj => ?_⟩⟩
  rw [add_plain, blk_cell h.1]
  simp [nums, List.getElem?_eq_getElem (show j < P.length by rw [h.2]; exact hj), List.getD_eq_getElem?_getD]
theorem pitch_with.calls (p ty : Nat) (A : Option Addr) (n c : Nat) (P X all : List Int) (hall : all = P ++ X) (w : World) (hp : Past w p ty P) (hx : ReadsInt w .i64 A n X) (hn : n ≤ 120) :
    Calls Try.prog 47 #[.pointer (some ⟨p, 0, none⟩), .slice A n c] w fun e w' => ∃ A c, e = .returned (.slice A all.length c) ∧ w'.ownsRow w.heap.size 2 1 (.slice A all.length c) all.length (nums .i64 all) ∧ Below w.heap.size w w' := by
  have HP := Aside0.mk hp
  have HX := Aside0.mk hx
  have HN := Aside0.mk hn
  have HALL := Aside0.mk hall
  clear hp hx hn hall
  go_enter Try.func47, Try.ntmps47
  go_wp2_with (first | (go_at_call 83; refine (slices_Concat.two w.heap.size (some ⟨p, 0, none⟩) A 79 c n P X all HALL.out _ (by rw [blk_cell (blk_new w _)]; rfl) (by rw [blk_cell (blk_new w _)]; rfl) (HP.out.reads.below (below_alloc (Below.refl _ _) _)) (HX.out.below (below_alloc (Below.refl _ _) _)) HN.out).mono ?_; rintro e w1 ⟨A1, c1, rfl, g1, g2⟩; have HG := Aside0.mk g1; have HB := Aside0.mk g2; clear g1 g2))
  go_ret
  exact ⟨A1, c1, rfl, own_lower HG.out (below_size (below_alloc (Below.refl _ _) _)), below_step (below_alloc (Below.refl _ _) _) HB.out⟩
/-- The sum of products of what stands a ahead and what stands b ahead, of k numbers from the 79th on. -/
def psum (all : List Int) (a b : Int) : Nat → Int
  | 0 => 0
  | k + 1 => wrap64 (psum all a b k + wrap64 (rd all (79 + k - a) * rd all (79 + k - b)))
theorem pitch_sum.calls (a b : Int) (g : Nat) (A : Option Addr) (n c : Nat) (all : List Int) (w : World) (ha0 : 0 ≤ a) (ha1 : a ≤ 79) (hb0 : 0 ≤ b) (hb1 : b ≤ 79) (hg : w.cell? ⟨g, 0, none⟩ = some (.slice A n c)) (hr : ReadsInt w .i64 A n all) (hn0 : 79 ≤ n) (hn : n ≤ 199) :
    Calls Try.prog 48 #[.int .i64 a, .int .i64 b, .pointer (some ⟨g, 0, none⟩)] w fun e w' => e = .returned (.int .i64 (psum all a b (n - 79))) ∧ ∃ q, w' = w.drewN q := by
  have HA := Aside0.mk (show 0 ≤ a ∧ a ≤ 79 ∧ 0 ≤ b ∧ b ≤ 79 ∧ 79 ≤ n ∧ n ≤ 199 from ⟨ha0, ha1, hb0, hb1, hn0, hn⟩)
  have HR := Aside0.mk hr
  clear hr ha0 ha1 hb0 hb1 hn0 hn
  go_enter Try.func48, Try.ntmps48
  go_wp2
  go_loopg [6, 7] (n - 79) (fun kq v6 v7 w' => ∃ k : Nat, v7 = .int .i64 (79 + (k : Int)) ∧ v6 = .int .i64 (psum all a b k) ∧ Aside0 (kq + k = n - 79) ∧ Aside0 (∃ q, w' = w.drewN q))
  case atStart => exact ⟨0, rfl, rfl, ⟨by omega⟩, ⟨0, rfl⟩⟩
  case round =>
    obtain ⟨k, rfl, rfl, HK, HD⟩ := hrel
    obtain ⟨q, hq⟩ := HD.out
    have c0 : wr.cell? ⟨g, 0, none⟩ = some (.slice A n c) := by rw [hq]; exact hg
    have HQ := Aside0.mk hq
    clear hq
    by_cases hk : 79 + (k : Int) < (n : Int)
    · have b0 : decide (79 + (k : Int) < (n : Int)) = true := decide_eq_true hk
      obtain ⟨ad, eA, x0⟩ := HR.out.at_ (79 + k - a) (by have := HA.out; omega) (by have := HA.out; omega)
      obtain ⟨ad', eA', x1⟩ := HR.out.at_ (79 + k - b) (by have := HA.out; omega) (by have := HA.out; omega)
      subst eA
      obtain rfl : ad = ad' := by injection eA'
      clear eA'
      have y0 : wr.cell? (ad.add (79 + k - a).toNat) = some (.int .i64 (rd all (79 + k - a))) := by rw [HQ.out]; exact x0
      have y1 : wr.cell? (ad.add (79 + k - b).toNat) = some (.int .i64 (rd all (79 + k - b))) := by rw [HQ.out]; exact x1
      have s0 : IntKind.i64.wrap (79 + (k : Int) - a) = 79 + (k : Int) - a := IntWalk.i64_in _ (by have := HA.out; omega)
      have s1 : IntKind.i64.wrap (79 + (k : Int) - b) = 79 + (k : Int) - b := IntWalk.i64_in _ (by have := HA.out; omega)
      have l0 : 0 ≤ 79 + (k : Int) - a := by have := HA.out; omega
      have l1 : 0 ≤ 79 + (k : Int) - b := by have := HA.out; omega
      have m0 : 79 + (k : Int) - a < (n : Int) := by have := HA.out; omega
      have m1 : 79 + (k : Int) - b < (n : Int) := by have := HA.out; omega
      have HKN := Aside0.mk hk
      clear x0 x1 hk
      go_wp2
      go_quiet (fail)
      go_wp2
      go_roundg (gk - 1)
      case rel => exact ⟨k + 1, by first | rfl | (congr 1; unfold wrap64; have := HA.out; have := HKN.out; push_cast; omega), by first | rfl | (rw [i64_w]; rfl), ⟨by have := HA.out; have := HK.out; have := HKN.out; omega⟩, by first | exact ⟨⟨_, by rw [HQ.out, World.drewN_drewN]⟩⟩ | exact ⟨⟨_, HQ.out⟩⟩⟩
      case measure => have := HA.out; have := HK.out; have := HKN.out; omega
    · have b0 : decide (79 + (k : Int) < (n : Int)) = false := decide_eq_false hk
      have hkn : k = n - 79 := by have := HA.out; have := HK.out; omega
      subst hkn
      clear hk
      go_wp2
      go_ret
      exact ⟨rfl, q, HQ.out⟩
/-- What became of a world of which one block alone was written. -/
structure Only (W w' : World) (p : Nat) : Prop where
  os : w'.os = W.os
  tape : w'.tape = W.tape
  output : w'.output = W.output
  size : W.heap.size ≤ w'.heap.size
  block : ∀ i, i < W.heap.size → i ≠ p → w'.heap[i]? = W.heap[i]?
theorem Only.below {W w' w0 : World} {p base : Nat} (h : Only W w' p) (hb : Below base w0 W) (hB : base ≤ W.heap.size) (hp : base ≤ p) : Below base w0 w' :=
  ⟨h.os.trans hb.os, h.tape.trans hb.tape, h.output.trans hb.output, Nat.le_trans hb.size h.size, fun i hi => (h.block i (by omega) (by omega)).trans (hb.block i hi)⟩
theorem Only.of_below {W w1 : World} {p : Nat} (h : Below W.heap.size W w1) : Only W w1 p := ⟨h.os, h.tape, h.output, h.size, fun i hi _ => h.block i hi⟩
theorem Only.trans {W w1 w2 : World} {p : Nat} (h : Only W w1 p) (g : Only w1 w2 p) : Only W w2 p :=
  ⟨g.os.trans h.os, g.tape.trans h.tape, g.output.trans h.output, Nat.le_trans h.size g.size, fun i hi hp => (g.block i (Nat.lt_of_lt_of_le hi h.size) hp).trans (h.block i hi hp)⟩
theorem step_copy_all {P : Program} {ops : Array Oper} {o : Oper} {a : Act} {w : World} {K : Act → World → Prop} {Q : Exit → Act → World → Prop} {E : Prop} (hgd : o.guard = none) (d s : Operand) (dT sT : TypeId)
    (ho : o.op = .call { callee := .builtin .copy, args := #[d, s], argTypes := #[dT, sT] }) (elem : TypeId) (hu : P.underlying dT = some (.slice elem)) (hsz : (P.info? elem).map (·.size) = some 1)
    (g n c1 c2 : Nat) (ad : Addr) (hd : a.eval d = .slice (some ⟨g, 0, none⟩) n c1) (hs : a.eval s = .slice (some ad) n c2)
    (cur : List Value) (t : TypeId) (hg : w.heap[g]? = some (.cells cur.toArray t (0, 0))) (cs : List Value) (hn : cs.length = n) (hcur : cur.length = n)
    (hsrc : ∀ j v, cs[j]? = some v → w.cell? (ad.add j) = some v) (h1 : ∀ v ∈ cs, v.oneCell' = true)
    (h : ∀ w', w'.heap[g]? = some (.cells cs.toArray t (0, 0)) → Only w w' g → K (a.put o.dst (goInt cs.length)) w') :
    if Region.wanted o (yielded ops a.tmps) = true then Oper.wp P o a w K Q else E := by
  have hw : Region.wanted o (yielded ops a.tmps) = true := by simp [Region.wanted, hgd]
  rw [if_pos hw]
  have hrun := run_copy_row (P := P) w dT sT o.type elem g 0 n c1 ad n c2 cur.toArray t cs hu hsz hg (by simp [hn]) hsrc (by simp; omega) h1
  have e : (cur.toArray.toList.take 0 ++ cs ++ cur.toArray.toList.drop (0 + cs.length)) = cs := by
    simp; omega
  rw [e] at hrun
  unfold Oper.wp
  simp [execOp, ho, resolve, invoke, builtin, hd, hs, hrun, Result.andThen]
  exact h _ (setRow_heap w g _ _ t _ hg) ⟨rfl, rfl, rfl, by simp, fun i _ hi => setRow_other w g i _ hi⟩
set_option maxHeartbeats 4000000 in
theorem pitch_keep.calls (p ty : Nat) (A : Option Addr) (N c : Nat) (P all Q : List Int) (w : World) (hp : Past w p ty P) (hx : ReadsInt w .i64 A N all) (hc : N ≤ c) (hN : 79 ≤ N) (hN2 : N ≤ 199) (hQ : Q = all.drop (N - 79)) :
    Calls Try.prog 50 #[.pointer (some ⟨p, 0, none⟩), .slice A N c] w fun e w' => e = .returned (.tuple #[]) ∧ Past w' p ty Q ∧ Only w w' p := by
  obtain ⟨i0, hi0, hz⟩ := Option.map_eq_some_iff.1 info2
  simp only [Prod.mk.injEq] at hz
  have hsz := hz.2.1
  have HZ : Aside0 ((Try.prog.info? 2).map (·.size) = some 1) := ⟨by rw [hi0]; simp [hsz]⟩
  clear hz
  obtain ⟨ad, eA, hcell⟩ := hx.2.2 (by omega)
  subst eA
  have hQl : Q.length = 79 := by rw [hQ, List.length_drop, hx.1]; omega
  obtain ⟨m, hm⟩ : ∃ m : Nat, N = m + 79 := ⟨N - 79, by omega⟩
  subst hm
  have hsrc : ∀ j v, (nums .i64 Q)[j]? = some v → w.cell? ((ad.add m).add j) = some v := by
    intro j v hj
    have hjl : j < 79 := by have := (List.getElem?_eq_some_iff.1 hj).1; rw [nums_length, hQl] at this; exact this
    rw [Addr.add_add, hcell (m + j) (by omega)]
    rw [nums, List.getElem?_map, hQ, List.getElem?_drop, Nat.add_sub_cancel, List.getElem?_eq_getElem (by rw [hx.1]; omega)] at hj
    rw [List.getD_eq_getElem?_getD, List.getElem?_eq_getElem (by rw [hx.1]; omega)]
    exact hj
  have hcut : ∀ W : World, (Instr.slice 26 (.slice (some ad) (m + 79) c) (some (.int .i64 (m : Int))) none none).run Try.prog W = .ok (.slice (some (ad.add m)) 79 (c - m)) W := fun W => by
    have := cut_from 26 2 .i64 Try.underlying26 hi0 1 hsz (some ad) (m + 79) c (m : Int) (by omega) (by omega) W
    rw [this, Int.toNat_natCast, if_neg (by omega)]; simp
  have hw : IntKind.i64.wrap (((m + 79 : Nat) : Int) - 79) = (m : Int) := by rw [IntWalk.i64_in _ (by omega)]; omega
  have hw2 : IntKind.i64.wrap ((m : Int) + 79 - 79) = (m : Int) := by rw [IntWalk.i64_in _ (by omega)]; omega
  have hw3 : IntKind.i64.wrap (m : Int) = (m : Int) := by rw [IntWalk.i64_in _ (by omega)]
  have hne : ¬ c = m := by omega
  have h79 : m + 79 - m = 79 := by omega
  have HP := Aside0.mk hp
  have HS := Aside0.mk hsrc
  have HQ := Aside0.mk hQl
  clear hp hx hc hN hN2 hQ hcell hsrc hQl
  go_enter Try.func50, Try.ntmps50
  go_wp2
  go_region_law (first | (refine step_copy_all rfl (.tmp 7) (.tmp 12) 26 26 rfl 2 Try.underlying26 HZ.out p 79 79 (c - m) (ad.add m) (by simp [Act.eval, Act.put]) (by simp [Act.eval, Act.put]) (nums .i64 P) ty HP.out.1 (nums .i64 Q) (by rw [nums_length, HQ.out]) (by rw [nums_length, HP.out.2]) HS.out (by intro u hu; rw [nums] at hu; obtain ⟨x, _, rfl⟩ := List.mem_map.1 hu; rfl) ?_; intro w' g1 g2; have HG := Aside0.mk g1; have HO := Aside0.mk g2; clear g1 g2))
  all_goals (go_wp2; go_end0; exact ⟨rfl, ⟨HG.out, HQ.out⟩, ⟨HO.out.os, HO.out.tape, HO.out.output, HO.out.size, HO.out.block⟩⟩)
end Go.Proofs.Ytblehkoonajofaa.PPitch
