/- The store's calls, each told whatever the store holds; a store beside two rows of the call's own. Numbers of functions: those of the program's form. -/
import Derived.Test.YtgmgdbcfgbgnlaaPPcmx0
import Derived.Test.YtgmgdbcfgbgnlaaPPcmx1
import Derived.WalkSpells
import Derived.Outline
import Derived.StillTailTactics
import Derived.Lib.SliceRun
import Derived.Laws.CopyOwn
namespace Go.Proofs.Ytgmgdbcfgbgnlaa.PPcm
open Go.RowKit Go.Proofs.YtgmgdbcfgbgnlaaW.PrintWords Go.Proofs.YtgmgdbcfgbgnlaaW.PrintLast Go.Proofs.YtgmgdbcfgbgnlaaW.PrintMore
attribute [local go_sem] max2_int min2_int max_two min_two max_three min_three max_four min_four   -- for this text's walks alone
set_option linter.unusedVariables false
set_option linter.unusedSimpArgs false
/-! ### what the laws about stores want besides -/
theorem slices_Delete.none (A : Option Addr) (n cap : Nat) (hc : n ≤ cap) (w : World) :
    Calls Try.prog 51 #[.slice A n cap, .int .i64 0, .int .i64 0] w fun e w' => e = .returned (.slice A n cap) ∧ ∃ q, w' = w.drewN q := by
  obtain ⟨i0, hi0, hz⟩ := Option.map_eq_some_iff.1 info33
  simp only [Prod.mk.injEq] at hz
  have hsz := hz.2.1
  clear hz
  obtain ⟨X, hX⟩ := cut3 hi0 hsz A n cap 0 0 n (by omega) (by omega) (by omega) (by omega)
  have ht : ((0 : Int) == (0 : Int)) = true := rfl
  clear hc
  go_enter Try.func51, Try.ntmps51
  go_wp2
  repeat (go_quiet (fail); try go_wp2)
  go_ret
  exact ⟨rfl, 0, rfl⟩
theorem pcm_Len.calls (p : Nat) (a : Value) (A : Option Addr) (n c ty : Nat) (lay : Nat × Nat) (W : World) (hs : W.heap[p]? = some (.cells #[a, .slice A n c] ty lay)) :
    Calls Try.prog 17 #[.pointer (some ⟨p, 0, none⟩)] W fun e w' => e = .returned (.int .i64 n) ∧ ∃ q, w' = W.drewN q := by
  have c1 : W.cell? ⟨p, 1, none⟩ = some (.slice A n c) := by simp [World.cell?, hs]
  clear hs
  go_enter Try.func17, Try.ntmps17
  go_wp2
  repeat (go_quiet (fail); try go_wp2)
  go_ret
  exact ⟨rfl, 0, rfl⟩
theorem pcm_Len.nil (W : World) : Calls Try.prog 17 #[.pointer none] W fun e w' => e = .returned (.int .i64 0) ∧ ∃ q, w' = W.drewN q := by
  go_enter Try.func17, Try.ntmps17
  go_wp2
  repeat (go_quiet (fail); try go_wp2)
  go_ret
  exact ⟨rfl, 0, rfl⟩
theorem pcm_Take.zero (p : Nat) (n : Int) (hn : n ≤ 0) (W : World) : Calls Try.prog 18 #[.pointer (some ⟨p, 0, none⟩), .int .i64 n] W fun e w' => e = .returned (.slice none 0 0) ∧ ∃ q, w' = W.drewN q := by
  have t0 : decide (n ≤ 0) = true := decide_eq_true hn
  clear hn
  go_enter Try.func18, Try.ntmps18
  go_wp2
  repeat (go_quiet (fail); try go_wp2)
  go_ret
  exact ⟨rfl, 0, rfl⟩
theorem pcm_Take.nil (n : Int) (W : World) : Calls Try.prog 18 #[.pointer none, .int .i64 n] W fun e w' => e = .returned (.slice none 0 0) ∧ ∃ q, w' = W.drewN q := by
  go_enter Try.func18, Try.ntmps18
  go_wp2
  repeat (go_quiet (fail); try go_wp2)
  go_ret
  exact ⟨rfl, 0, rfl⟩
theorem pcm_Put.nil (v : Value) (W : World) : Calls Try.prog 16 #[.pointer none, v] W fun e w' => e = .returned (.int .i64 3) ∧ ∃ q, w' = W.drewN q := by
  go_enter Try.func16, Try.ntmps16
  go_wp2
  repeat (go_quiet (fail); try go_wp2)
  go_ret
  exact ⟨rfl, 0, rfl⟩
theorem pcm_Clear.nil (W : World) : Calls Try.prog 22 #[.pointer none] W fun e w' => e = .returned (.tuple #[]) ∧ ∃ q, w' = W.drewN q := by
  go_enter Try.func22, Try.ntmps22
  go_wp2
  repeat (go_quiet (fail); try go_wp2)
  go_end0
  exact ⟨rfl, 0, rfl⟩
theorem pcm_Clear.calls (p : Nat) (a v : Value) (ty : Nat) (lay : Nat × Nat) (W : World) (hs : W.heap[p]? = some (.cells #[a, v] ty lay)) (hl : lay = (0, 0)) :
    Calls Try.prog 22 #[.pointer (some ⟨p, 0, none⟩)] W fun e w' => e = .returned (.tuple #[]) ∧ w'.heap[p]? = some (.cells #[a, .slice none 0 0] ty lay) ∧ Chg W w' p none := by
  subst hl
  have c1 : W.cell? ⟨p, 1, none⟩ = some v := by simp [World.cell?, hs]
  have d1 : W.frozen? ⟨p, 1, none⟩ = false := blk_frozen hs 1
  have HS := Aside0.mk hs
  clear hs
  go_enter Try.func22, Try.ntmps22
  go_wp2
  go_end0
  exact ⟨rfl, blk_set HS.out 1 _, (Chg.drew W 0 p none).set 1 _⟩
set_option maxRecDepth 100000 in
theorem pcm_Take.empty (base p m cv : Nat) (Av : Option Addr) (n most : Int) (W : World) (hs : W.heap[p]? = some (.cells #[.int .i64 most, .slice Av 0 cv] 84 (0, 0))) (ho : W.ownsRow base 33 1 (.slice Av 0 cv) 0 [])
    (hn : 0 < n) (hm1 : 1 ≤ m) (hm2 : m ≤ 4096) (hmin : (if (4096 : Int) < n then 4096 else n) = (m : Int)) :
    Calls Try.prog 18 #[.pointer (some ⟨p, 0, none⟩), .int .i64 n] W fun e w' => ∃ vo, e = .returned vo ∧ Kd.R (Kd.int .i16) 33 w' W.heap.size (fun _ => True) vo (List.replicate m 0) ∧ w'.heap[p]? = some (.cells #[.int .i64 most, .slice Av 0 cv] 84 (0, 0)) ∧ w'.ownsRow base 33 1 (.slice Av 0 cv) 0 [] ∧ Chg W w' p none := by
  obtain ⟨i0, hi0, hz⟩ := Option.map_eq_some_iff.1 info33
  simp only [Prod.mk.injEq] at hz
  obtain ⟨hz0, hsz, hby⟩ := hz
  have hpl := blk_lt hs
  have hpo := own_ne ho hs (by decide)
  have c1 : W.cell? ⟨p, 1, none⟩ = some (.slice Av 0 cv) := by simp [World.cell?, hs]
  have t0 : decide (n ≤ 0) = false := decide_eq_false (by omega)
  have HB : Aside0 (Below W.heap.size W W) := ⟨Below.refl _ _⟩
  have HO := Aside0.mk ho
  have HS := Aside0.mk hs
  have HPO := Aside0.mk hpo
  have HM := Aside0.mk (show 1 ≤ m ∧ m ≤ 4096 ∧ p < W.heap.size from ⟨hm1, hm2, hpl⟩)
  clear ho hs hm1 hm2 hpl hn hpo
  go_enter Try.func18, Try.ntmps18
  go_wp2_with (first | (at_make; refine wpList_make_full _ rfl _ _ 29 rfl W.heap.size 33 i0 (.int .i16 0) 1 Try.underlying29 hi0 hz0 hsz _ _ _ _ m rfl rfl rfl rfl ?bytes ?maxl ?base ?_))
  case bytes => have := HM.out; (first | omega | (rw [hby]; omega))
  case maxl => have := HM.out; unfold maxLen; omega
  (try (case base => exact Nat.le_refl _))
  intro w1 hown1 hg1
  rw [made_nums] at hown1
  have HG1 := Aside0.mk (own_all hown1)
  have HB1 : Aside0 (Below W.heap.size W w1) := ⟨(Below.refl _ _).grown hg1 (Nat.le_refl _) (fun k e => by cases e)⟩
  clear hown1 hg1 c1
  have hp1 : w1.heap[p]? = some (.cells #[.int .i64 most, .slice Av 0 cv] 84 (0, 0)) := (HB1.out.block p (by have := HM.out; omega)).trans HS.out
  have c1 : w1.cell? ⟨p, 1, none⟩ = some (.slice Av 0 cv) := by simp [World.cell?, hp1]
  clear hp1
  have HZ : Aside0 ((Try.prog.info? 33).map (·.size) = some 1) := ⟨by rw [hi0]; simp [hsz]⟩
  have HN : Aside0 (([] : List Value).length = Nat.min 0 m) := ⟨by simp⟩
  have HP : Aside0 (0 < ([] : List Value).length → (some (⟨W.heap.size, 0, none⟩ : Addr)) = some ⟨W.heap.size, 0, none⟩ ∧ ∃ ad, Av = some ad ∧ ∀ j v, ([] : List Value)[j]? = some v → w1.cell? (ad.add j) = some v) := ⟨fun h => absurd h (by simp)⟩
  have HF : Aside0 (0 + ([] : List Value).length ≤ (nums .i16 (List.replicate m 0)).length) := ⟨by simp⟩
  have H1 : Aside0 (∀ v ∈ ([] : List Value), v.oneCell' = true) := ⟨fun v h => by cases h⟩
  go_wp2_with (first | ((with_reducible refine gate_builtin (b := .copy) rfl ?_); refine wpList_copy_splice rfl (.tmp 16) (.tmp 20) 29 29 rfl 33 Try.underlying29 HZ.out (some ⟨W.heap.size, 0, none⟩) Av m m 0 cv rfl rfl W.heap.size 0 (nums .i16 (List.replicate m 0)) 33 HG1.out [] HN.out HP.out HF.out H1.out W.heap.size W HB1.out (Nat.le_refl _) ?_; intro w2 hh2 hb2; have HH2 := Aside0.mk hh2; have HB2 := Aside0.mk hb2; have c2 : w2.cell? ⟨p, 1, none⟩ = some (.slice Av 0 cv) := (by have h_ := (hb2.block p (by have := HM.out; omega)).trans HS.out; simp [World.cell?, h_]); clear hh2 hb2) | (go_at_call 51; refine (slices_Delete.none Av 0 cv (Nat.zero_le _) _).mono ?_; rintro e w3 ⟨rfl, q3, hq3⟩; have HQ3 := Aside0.mk hq3; have hp3 : w3.heap[p]? = some (.cells #[.int .i64 most, .slice Av 0 cv] 84 (0, 0)) := (by rw [hq3]; exact (HB2.out.block p (by have := HM.out; omega)).trans HS.out); have HP3 := Aside0.mk hp3; have d1 : w3.cell? ⟨p, 1, none⟩ = some (.slice Av 0 cv) := (by simp [World.cell?, hp3]); have d2 : w3.frozen? ⟨p, 1, none⟩ = false := blk_frozen hp3 1; clear hq3 hp3))
  go_ret
  have hM := HM.out
  have hw : ∀ i : Nat, w3.heap[i]? = w2.heap[i]? := fun i => by rw [HQ3.out]; rfl
  have hgo : (w3.setCell ⟨p, 1, none⟩ (.slice Av 0 cv)).heap[W.heap.size]? = some (.cells (nums .i16 (List.replicate m 0)).toArray 33 (0, 0)) := by
    rw [Below.heap_setCell w3 ⟨p, 1, none⟩ _ _ (by show W.heap.size ≠ p; omega), hw]
    have h2 : w2.heap[W.heap.size]? = _ := HH2.out
    rw [h2]
    simp [splice]
  have hch : Chg W (w3.setCell ⟨p, 1, none⟩ (.slice Av 0 cv)) p none := by
    refine Chg.set ⟨?_, ?_, ?_, ?_, fun i hi hp hg => (hw i).trans (HB2.out.block i hi)⟩ 1 _
    · rw [HQ3.out]; exact HB2.out.os
    · rw [HQ3.out]; exact HB2.out.tape
    · rw [HQ3.out]; exact HB2.out.output
    · rw [HQ3.out]; exact HB2.out.size
  refine ⟨_, rfl, Kd.R_of_own (own_of_all (Nat.le_refl _) (by simp) (by omega) hgo) (fun _ _ => trivial), blk_set HP3.out 1 _, ?_, hch⟩
  exact own_move HO.out (fun j hj => hch.block j (own_lt HO.out j hj) (by intro e; subst e; exact HPO.out hj.symm) (by simp))
theorem Chg.mono {W w' : World} {p : Nat} (h : Chg W w' p none) (row : Option Nat) : Chg W w' p row := ⟨h.os, h.tape, h.output, h.size, fun i hi hp _ => h.block i hi hp (by simp)⟩
/-- How many are taken: at most 4096. -/
def tk (n : Int) : Nat := (if (4096 : Int) < n then 4096 else n).toNat
/-- What is taken. -/
def takeL (n : Int) (l : List Int) : List Int := l.take (tk n) ++ List.replicate (tk n - l.length) 0
theorem pcm_Take.any (base p : Nat) (n most : Int) (l : List Int) (v : Value) (W : World) (hs : W.heap[p]? = some (.cells #[.int .i64 most, v] 84 (0, 0))) (ho : W.ownsRow base 33 1 v l.length (nums .i16 l)) :
    Calls Try.prog 18 #[.pointer (some ⟨p, 0, none⟩), .int .i64 n] W fun e w' => ∃ A c v', e = .returned (.slice A (takeL n l).length c) ∧ Kd.R (Kd.int .i16) 33 w' W.heap.size (fun _ => True) (.slice A (takeL n l).length c) (takeL n l) ∧ w'.heap[p]? = some (.cells #[.int .i64 most, v'] 84 (0, 0)) ∧ w'.ownsRow base 33 1 v' (l.drop (tk n)).length (nums .i16 (l.drop (tk n))) ∧ v'.ownBlock = v.ownBlock ∧ Chg W w' p v.ownBlock := by
  by_cases hn : n ≤ 0
  · have e0 : tk n = 0 := by unfold tk; rw [if_neg (by omega)]; omega
    have e1 : takeL n l = [] := by unfold takeL; rw [e0]; simp
    rw [e1, e0]
    refine (pcm_Take.zero p n hn W).mono ?_
    rintro e w' ⟨rfl, q, rfl⟩
    exact ⟨none, 0, v, rfl, Kd.R_of_own (own_nil _ _ _ _) (fun _ _ => trivial), hs, own_move ho (fun _ _ => rfl), rfl, Chg.drew W q p _⟩
  obtain ⟨m, hm⟩ : ∃ m, m = tk n := ⟨_, rfl⟩
  have hmin : (if (4096 : Int) < n then 4096 else n) = (m : Int) := by rw [hm]; unfold tk; split <;> omega
  have m1 : 1 ≤ m ∧ m ≤ 4096 := by split at hmin <;> omega
  unfold takeL
  rw [← hm]
  cases hl : l with
  | nil =>
    subst hl
    obtain ⟨Av, cv, rfl⟩ := own_slice ho
    refine (pcm_Take.empty base p m cv Av n most W hs ho (by omega) m1.1 m1.2 hmin).mono ?_
    rintro e w' ⟨vo, rfl, hR, h2, h3, h4⟩
    obtain ⟨A, c, rfl⟩ := Kd.R_slice hR
    simp only [List.take_nil, List.drop_nil, List.nil_append, List.length_nil, Nat.sub_zero]
    exact ⟨A, c, _, rfl, hR, h2, h3, rfl, h4.mono _⟩
  | cons x l' =>
    rw [← hl]
    have hne : l ≠ [] := by rw [hl]; simp
    obtain ⟨g, cap, rfl, _⟩ := ho.form (by rw [hl]; simp)
    have hlen : 1 ≤ l.length := by rw [hl]; simp
    obtain ⟨k, hk⟩ : ∃ k, k = min m l.length := ⟨_, rfl⟩
    refine (pcm_Take.take base p m k cap g n most l W hs ho (by omega) m1.1 m1.2 hmin hk (by omega)).mono ?_
    rintro e w' ⟨vo, rfl, hR, v', h2, h3, h4, h5⟩
    have e1 : l.take k = l.take m := by
      rw [hk]; by_cases c : m ≤ l.length
      · rw [Nat.min_eq_left c]
      · rw [Nat.min_eq_right (by omega), List.take_of_length_le (by omega), List.take_of_length_le (by omega)]
    have e2 : l.drop k = l.drop m := by
      rw [hk]; by_cases c : m ≤ l.length
      · rw [Nat.min_eq_left c]
      · rw [Nat.min_eq_right (by omega), List.drop_of_length_le (by omega), List.drop_of_length_le (by omega)]
    have e3 : m - k = m - l.length := by omega
    rw [e1, e3] at hR
    rw [e2] at h3
    obtain ⟨A, c, rfl⟩ := Kd.R_slice hR
    exact ⟨A, c, v', rfl, hR, h2, h3, h4, h5⟩
/-! ### a store at p and two rows of the call's own -/
structure Inv (W0 w : World) (p : Nat) (vs vi vo : Value) (st xi xo : List Int) : Prop where
  sp : w.heap[p]? = some (.cells #[.int .i64 4096, vs] 84 (0, 0))
  os : w.ownsRow W0.heap.size 33 1 vs st.length (nums .i16 st)
  oi : w.ownsRow W0.heap.size 33 1 vi xi.length (nums .i16 xi)
  oo : w.ownsRow W0.heap.size 33 1 vo xo.length (nums .i16 xo)
  di : ∀ b, vi.ownBlock = some b → vs.ownBlock ≠ some b ∧ vo.ownBlock ≠ some b
  do_ : ∀ b, vo.ownBlock = some b → vs.ownBlock ≠ some b
  be : Below W0.heap.size W0 w
  ge : W0.heap.size ≤ p
namespace Inv
variable {W0 w w' : World} {p : Nat} {vs vi vo : Value} {st xi xo : List Int}
theorem drewN (h : Inv W0 w p vs vi vo st xi xo) (n : Nat) : Inv W0 (w.drewN n) p vs vi vo st xi xo :=
  ⟨h.sp, own_move h.os fun _ _ => rfl, own_move h.oi fun _ _ => rfl, own_move h.oo fun _ _ => rfl, h.di, h.do_, pw_below_drewN h.be n, h.ge⟩
theorem pne (h : Inv W0 w p vs vi vo st xi xo) : some p ≠ vs.ownBlock ∧ some p ≠ vi.ownBlock ∧ some p ≠ vo.ownBlock := ⟨own_ne h.os h.sp (by decide), own_ne h.oi h.sp (by decide), own_ne h.oo h.sp (by decide)⟩
/-- The store alone is changed. -/
theorem chg (h : Inv W0 w p vs vi vo st xi xo) {vs' : Value} {st' : List Int} (h1 : w'.heap[p]? = some (.cells #[.int .i64 4096, vs'] 84 (0, 0))) (h2 : w'.ownsRow W0.heap.size 33 1 vs' st'.length (nums .i16 st')) (h3 : vs'.ownBlock = vs.ownBlock ∨ ∃ b, vs'.ownBlock = some b ∧ w.heap.size ≤ b) (h4 : Chg w w' p vs.ownBlock) : Inv W0 w' p vs' vi vo st' xi xo := by
  have nb : ∀ b, b < w.heap.size → vs.ownBlock ≠ some b → vs'.ownBlock ≠ some b := fun b hb hn => by
    rcases h3 with e | ⟨c, e, hc⟩
    · rw [e]; exact hn
    · rw [e]; intro e2; have := Option.some.inj e2; omega
  refine ⟨h1, h2, own_move h.oi fun k hk => h4.block k (own_lt h.oi k hk) ?_ ?_, own_move h.oo fun k hk => h4.block k (own_lt h.oo k hk) ?_ ?_, fun b hb => ⟨nb b (own_lt h.oi b hb) (h.di b hb).1, (h.di b hb).2⟩, fun b hb => nb b (own_lt h.oo b hb) (h.do_ b hb), h4.below h.be (below_size h.be) h.ge (fun k e => own_base h.os k e), h.ge⟩
  · intro e; subst e; exact h.pne.2.1 hk.symm
  · intro e; exact (h.di k hk).1 e.symm
  · intro e; subst e; exact h.pne.2.2 hk.symm
  · intro e; exact h.do_ k hk e.symm
theorem appIn (h : Inv W0 w p vs vi vo st xi xo) {vi' : Value} {xi' : List Int} (h1 : w'.ownsRow W0.heap.size 33 1 vi' xi'.length (nums .i16 xi')) (h2 : Below W0.heap.size W0 w') (h3 : w.grownBy w' vi.ownBlock) (h4 : vi'.ownBlock = vi.ownBlock ∨ ∃ b, vi'.ownBlock = some b ∧ w.heap.size ≤ b) : Inv W0 w' p vs vi' vo st xi' xo := by
  have nb : ∀ b, vi'.ownBlock = some b → vs.ownBlock ≠ some b ∧ vo.ownBlock ≠ some b := fun b hb => by
    rcases h4 with e | ⟨c, e, hc⟩
    · exact h.di b (by rw [← e]; exact hb)
    · rw [e] at hb; obtain rfl := Option.some.inj hb
      exact ⟨fun e2 => by have := own_lt h.os _ e2; omega, fun e2 => by have := own_lt h.oo _ e2; omega⟩
  refine ⟨blk_grown h.sp h3 h.pne.2.1, own_move h.os fun k hk => h3.block k (own_lt h.os k hk) ?_, h1, own_move h.oo fun k hk => h3.block k (own_lt h.oo k hk) ?_, nb, h.do_, h2, h.ge⟩
  · intro e; exact (h.di k e.symm).1 hk
  · intro e; exact (h.di k e.symm).2 hk
theorem appOut (h : Inv W0 w p vs vi vo st xi xo) {vo' : Value} {xo' : List Int} (h1 : w'.ownsRow W0.heap.size 33 1 vo' xo'.length (nums .i16 xo')) (h2 : Below W0.heap.size W0 w') (h3 : w.grownBy w' vo.ownBlock) (h4 : vo'.ownBlock = vo.ownBlock ∨ ∃ b, vo'.ownBlock = some b ∧ w.heap.size ≤ b) : Inv W0 w' p vs vi vo' st xi xo' := by
  have nb : ∀ b, vo'.ownBlock = some b → vs.ownBlock ≠ some b ∧ vi.ownBlock ≠ some b := fun b hb => by
    rcases h4 with e | ⟨c, e, hc⟩
    · exact ⟨h.do_ b (by rw [← e]; exact hb), fun e2 => (h.di b e2).2 (by rw [← e]; exact hb)⟩
    · rw [e] at hb; obtain rfl := Option.some.inj hb
      exact ⟨fun e2 => by have := own_lt h.os _ e2; omega, fun e2 => by have := own_lt h.oi _ e2; omega⟩
  refine ⟨blk_grown h.sp h3 h.pne.2.2, own_move h.os fun k hk => h3.block k (own_lt h.os k hk) ?_, own_move h.oi fun k hk => h3.block k (own_lt h.oi k hk) ?_, h1, fun b hb => ⟨(h.di b hb).1, fun e => (nb b e).2 hb⟩, fun b hb => (nb b hb).1, h2, h.ge⟩
  · intro e; exact h.do_ k e.symm hk
  · intro e; exact (h.di k hk).2 e.symm
end Inv
end Go.Proofs.Ytgmgdbcfgbgnlaa.PPcm
