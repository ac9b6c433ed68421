/- Tns: the reference's Find. -/
import Derived.Test.YtblehkoonajofaaTnsRefPure
import Derived.StillTailTactics
import Derived.Deep.RegionHeld3
import Derived.Deep.AppendLies
import Derived.Deep.DeepCutAuto
namespace Go.Proofs.Ytblehkoonajofaa.PTns
open Go.RowKit Go.Proofs.YtblehkoonajofaaW.PrintWords Go.Proofs.YtblehkoonajofaaW.PrintLast Go.Proofs.YtblehkoonajofaaW.PrintMore Go.Proofs.Ytblehkoonajofaa.RowAt
attribute [local go_sem] max2_int min2_int max_two min_two max_three min_three max_four min_four   -- for this text's walks alone
set_option linter.unusedVariables false
set_option linter.unusedSimpArgs false
/-- What stands in memory while the reference's Find runs its recursion. -/
structure RQ (w : World) (br bf : Nat) (R I U V : List Int) (u v : Value) (wx : World) : Prop where
  z : wx.heap[w.heap.size]? = some (.cells #[.int .i64 0, .int .i64 0, .int .i64 0, .int .i64 0, .int .i64 0] 63 (0, 0))
  r : wx.heap[br]? = some (.cells (nums .i64 R).toArray 113 (0, 0))
  f : wx.heap[bf]? = some (.cells (.int .i64 1 :: nums .i64 I).toArray 63 (0, 0))
  u : wx.ownsRow w.heap.size 2 1 u U.length (nums .i64 U)
  v : wx.ownsRow w.heap.size 2 1 v V.length (nums .i64 V)
  be : Below w.heap.size w wx
  gfz : w.heap.size < bf
  gfr : br < bf
namespace RQ
variable {w wx wy : World} {br bf : Nat} {R I U V : List Int} {u v : Value}
theorem later (h : RQ w br bf R I U V u v wx) (hb : Below wx.heap.size wx wy) : RQ w br bf R I U V u v wy :=
  ⟨box_later h.z hb, box_later h.r hb, box_later h.f hb, h.u.kept (grown_of_below hb none) (by cases Value.ownBlock _ <;> simp), h.v.kept (grown_of_below hb none) (by cases Value.ownBlock _ <;> simp), below_step h.be hb, h.gfz, h.gfr⟩
theorem rows (h : RQ w br bf R I U V u v wx) {P Q : List Int} {p q : Value} (hp : wx.ownsRow w.heap.size 2 1 p P.length (nums .i64 P)) (hq : wx.ownsRow w.heap.size 2 1 q Q.length (nums .i64 Q)) : RQ w br bf R I P Q p q wx :=
  ⟨h.z, h.r, h.f, hp, hq, h.be, h.gfz, h.gfr⟩
theorem setF (h : RQ w br bf R I U V u v wx) (j : Nat) (x : Int) : RQ w br bf R (I.set j x) U V u v (wx.setCell ⟨bf, 1 + j, none⟩ (.int .i64 x)) := by
  refine ⟨(Below.heap_setCell _ _ _ _ (by have := h.gfz; dsimp; omega)).trans h.z, (Below.heap_setCell _ _ _ _ (by have := h.gfr; dsimp; omega)).trans h.r, ?_, own_setCell (p := ⟨bf, 1 + j, none⟩) h.u (own_ne h.u h.f (by decide)) _, own_setCell (p := ⟨bf, 1 + j, none⟩) h.v (own_ne h.v h.f (by decide)) _, h.be.setCell (Nat.le_of_lt h.gfz) _, h.gfz, h.gfr⟩
  have h1 := blk_set h.f (1 + j) (.int .i64 x)
  rw [h1, Nat.add_comm]; simp [nums, List.map_set]
end RQ
theorem own_at {w : World} {base n c : Nat} {A : Option Addr} {L : List Int} (h : w.ownsRow base 2 1 (.slice A n c) n (nums .i64 L)) (hn : L.length = n) {j : Nat} (hj : j < n) : ∃ g, A = some ⟨g, 0, none⟩ ∧ w.cell? ⟨g, j, none⟩ = some (.int .i64 (L.getD j 0)) := by
  obtain ⟨g, c', e⟩ := own_known h (by omega)
  cases e
  refine ⟨g, rfl, ?_⟩
  rw [h.cellAt j (by omega), nums, List.getElem?_map, List.getElem?_eq_getElem (by omega), List.getD_eq_getElem?_getD, List.getElem?_eq_getElem (by omega)]; rfl
theorem own_form {w : World} {base n : Nat} {e : TypeId} {v : Value} {xs : List Value} (h : w.ownsRow base e 1 v n xs) : ∃ A c, v = .slice A n c := by
  rcases h.2 with ⟨h1, h2⟩ | ⟨g, cap, cur, h2, _⟩
  · exact ⟨none, 0, by rw [h1, h2]⟩
  · exact ⟨_, cap, h2⟩
theorem own_at2 {w : World} {base n c g : Nat} {L : List Int} (h : w.ownsRow base 2 1 (.slice (some ⟨g, 0, none⟩) n c) n (nums .i64 L)) (hn : L.length = n) {j : Nat} (hj : j < n) : w.cell? ⟨g, j, none⟩ = some (.int .i64 (L.getD j 0)) := by
  obtain ⟨g', e, h'⟩ := own_at h hn hj
  cases e; exact h'
theorem near_one (k : Int) : nearUpto k 1 = 0 := by simp [nearUpto]
/-- Two rows lie in blocks of their own. -/
def Apart (p q : Value) : Prop := ∀ g, p.ownBlock = some g → q.ownBlock ≠ some g
theorem Apart.nil (q : Value) : Apart (.slice none 0 0) q := fun g h => by cases h
theorem Apart.symm {p q : Value} (h : Apart p q) : Apart q p := fun g h1 h2 => h g h2 h1
theorem Apart.ne {p q : Value} (h : Apart p q) : q.ownBlock = none ∨ q.ownBlock ≠ p.ownBlock := by
  rcases h1 : q.ownBlock with _ | g
  · exact .inl rfl
  · exact .inr fun e => h g e.symm h1
theorem Apart.grow {w : World} {base n H : Nat} {p p1 q : Value} {xs : List Value} (h : Apart p q) (hq : w.ownsRow base 2 1 q n xs) (hH : w.heap.size ≤ H) (e : p1.ownBlock = p.ownBlock ∨ ∃ b, p1.ownBlock = some b ∧ H ≤ b) : Apart p1 q := fun g h1 h2 => by
  rcases e with e | ⟨b, e, hb⟩
  · exact h g (e ▸ h1) h2
  · have h3 : g = b := by rw [h1] at e; exact Option.some.inj e
    have := (hq.lt g h2).2
    omega
/-- A number is laid behind a row, at a step of a region that draws. -/
theorem step_push {ops : Array Oper} {o : Oper} {a : Act} {w0 W : World} {K : Act → World → Prop} {Q : Exit → Act → World → Prop} {E : Prop} (hgd : o.guard = none) (s x : Operand)
    (ho : o.op = .call { callee := .builtin .append, args := #[s, x], argTypes := #[26, 26] }) {base : Nat} (v : Value) (xs : List Int) (y : Int) (hs : a.eval s = v) (hx : a.eval x = .slice (some ⟨W.heap.size, 0, none⟩) 1 1)
    (own : W.ownsRow base 2 1 v xs.length (nums .i64 xs)) (hbe : Below base w0 W) (hb : base ≤ W.heap.size) (hn : xs.length ≤ 1000)
    (hK : ∀ v1 w1, w1.ownsRow base 2 1 v1 (xs ++ [y]).length (nums .i64 (xs ++ [y])) → Below base w0 w1 → (W.alloc (.cells #[.int .i64 y] 2)).grownBy w1 v.ownBlock → (v1.ownBlock = v.ownBlock ∨ ∃ b, v1.ownBlock = some b ∧ W.heap.size ≤ b) → K (a.put o.dst v1) w1) :
    if Region.wanted o (yielded ops a.tmps) = true then Oper.wp Try.prog o a (W.alloc (.cells #[.int .i64 y] 2)) K Q else E := by
  obtain ⟨i2, hi2, hz⟩ := Option.map_eq_some_iff.1 info_i64
  simp only [Prod.mk.injEq] at hz
  have hbb := below_alloc (Below.refl W.heap.size W) (.cells #[.int .i64 y] 2)
  have own2 := own.kept (grown_of_below hbb none) (by cases Value.ownBlock _ <;> simp)
  have hsz : (W.alloc (.cells #[.int .i64 y] 2)).heap.size = W.heap.size + 1 := Array.size_push _
  refine step_append_lies _ hgd s x 26 ho base 2 i2 (.int .i64 0) 1 8 Try.underlying26 hi2 hz.1 hz.2.1 hz.2.2 rfl (by decide) v xs.length (nums .i64 xs) hs own2 ⟨W.heap.size, 0, none⟩ 1 1 [.int .i64 y] hx rfl (World.news_of_block (cs := #[.int .i64 y]) (t := 2) (fr := (0, 0)) (heap_alloc_new W _)) (by simp [Value.oneCell']) (by decide) (Nat.le_trans (Nat.add_le_add_right hn 1) (show 1001 ≤ maxLen from by unfold maxLen; decide)) (by omega) (by rw [hsz]; omega) (W.heap.size + 1) hsz ?_
  intro g cap w1 hown hgrow hat hlt
  refine hK _ w1 ?_ ((hbe.alloc hb _).grown hgrow (by rw [hsz]; omega) (fun k hk => (own.lt k hk).1)) hgrow ?_
  · rw [List.length_append, nums, List.map_append]; exact hown
  · rcases hat with h | h
    · exact .inl h.symm
    · exact .inr ⟨g, rfl, by omega⟩
set_option maxHeartbeats 16000000 in
set_option maxRecDepth 100000 in
theorem ref17_Find.calls (A : Option Addr) (c : Nat) (x : List Int) (w : World) (hr : ReadsInt w .i32 A x.length x) (hn : x.length ≤ 120) (hx : ∀ i, In32 (x.getD i 0)) :
    Calls Try.prog 31 #[.slice A x.length c] w fun e w' => e = .returned (filtV (findOn (corrL x)) (findIdx (corrL x))) ∧ Below w.heap.size w w' := by
  have HR := Aside0.mk hr
  have HN := Aside0.mk hn
  have HX := Aside0.mk hx
  have HMG := Aside0.mk (fun i => And.intro (mostUpto_ge x i).1 (mostUpto_le x hx i))
  have HNB := Aside0.mk (nbits32 hx)
  have HMS := Aside0.mk (show ∀ i, mostUpto x (i + 1) = mx (mx (mostUpto x i) (x.getD i 0)) (-(x.getD i 0)) from fun i => rfl)
  have HH := Aside0.mk (show (hV x : Int) = mx (Go.Proofs.Ytblehkoonajofaa.LogsBaseTns.nbits (mostUpto x x.length) - 15) 0 from by unfold hV mx; split <;> omega)
  have HHL := Aside0.mk (hV_le hx)
  have HBB := Aside0.mk (below_alloc (Below.refl w.heap.size w) (.cells #[.int .i64 0, .int .i64 0, .int .i64 0, .int .i64 0, .int .i64 0] 63))
  have HBX := Aside0.mk (blk_new w (.cells #[.int .i64 0, .int .i64 0, .int .i64 0, .int .i64 0, .int .i64 0] 63))
  clear hr hn hx
  go_enter Try.func31, Try.ntmps31
  go_wp2
  generalize w.alloc (.cells #[.int .i64 0, .int .i64 0, .int .i64 0, .int .i64 0, .int .i64 0] 63) = w2 at HBB HBX ⊢
  go_loopg [3, 4, 5, 23, 24, 25, 26, 27, 28, 29, 30, 31, 32, 33, 34, 35, 36, 37, 38, 39, 40, 41] x.length (fun kq v3 v4 v5 v23 v24 v25 v26 v27 v28 v29 v30 v31 v32 v33 v34 v35 v36 v37 v38 v39 v40 v41 wx => ∃ i : Nat, v4 = .int .i64 (i : Int) ∧ v3 = .int .i64 (mostUpto x i) ∧ Aside0 (kq + i = x.length) ∧ Aside0 (wx = w2))
  case atStart => exact ⟨0, rfl, rfl, ⟨rfl⟩, ⟨rfl⟩⟩
  case round =>
    obtain ⟨i, rfl, rfl, HG, HE⟩ := hrel
    obtain rfl := HE.out
    clear HE
    by_cases hi : i < x.length
    · have hi0 : (0 : Int) ≤ i := by omega
      have hin : (i : Int) < (x.length : Int) := by omega
      obtain ⟨adx, eA, hcx⟩ := HR.out.2.2 (by omega)
      subst eA
      have hc0 := hcx i hi
      have hc := (HBB.out.cell (World.block_lt_of_cell? _ _ hc0)).trans hc0
      have hmg := (HMG.out i).1
      have hml := (HMG.out i).2
      have hxi := HX.out i
      have hms := HMS.out i
      unfold In32 at hxi
      generalize x.getD i 0 = v at hc0 hc hxi hms
      generalize mostUpto x i = m at hmg hml hms ⊢
      have hvw : IntKind.i64.wrap v = v := by rw [i64_w]; unfold wrap64; omega
      have hnw : IntKind.i64.wrap (-v) = -v := by rw [i64_w]; unfold wrap64; omega
      have hwi : IntKind.i64.wrap ((i : Int) + 1) = ((i + 1 : Nat) : Int) := by rw [i64_w]; unfold wrap64; have := HN.out; omega
      obtain ⟨g0, rfl⟩ : ∃ g0, gk = g0 + 1 := ⟨gk - 1, by have := HG.out; omega⟩
      clear hc0 hi
      by_cases hv : v < 0
      · have hmn := most_neg hmg hv
        rw [← hms] at hmn
        have HMN := Aside0.mk hmn
        clear hms hmn
        by_cases hg : -v > m
        · have HM2 := Aside0.mk (show mostUpto x (i + 1) = -v from by have h := HMN.out; rw [if_pos hg] at h; exact h.symm)
          go_wp2
          go_roundg g0
          case measure => omega
          case rel => exact ⟨i + 1, by first | rfl | (congr 1; push_cast; rfl), by rw [HM2.out], ⟨by have := HG.out; omega⟩, ⟨rfl⟩⟩
        · have HM2 := Aside0.mk (show mostUpto x (i + 1) = m from by have h := HMN.out; rw [if_neg hg] at h; exact h.symm)
          go_wp2
          go_roundg g0
          case measure => omega
          case rel => exact ⟨i + 1, by first | rfl | (congr 1; push_cast; rfl), by rw [HM2.out], ⟨by have := HG.out; omega⟩, ⟨rfl⟩⟩
      · have hmn := most_pos hmg hv
        rw [← hms] at hmn
        have HMN := Aside0.mk hmn
        clear hms hmn
        by_cases hg : v > m
        · have HM2 := Aside0.mk (show mostUpto x (i + 1) = v from by have h := HMN.out; rw [if_pos hg] at h; exact h.symm)
          go_wp2
          go_roundg g0
          case measure => omega
          case rel => exact ⟨i + 1, by first | rfl | (congr 1; push_cast; rfl), by rw [HM2.out], ⟨by have := HG.out; omega⟩, ⟨rfl⟩⟩
        · have HM2 := Aside0.mk (show mostUpto x (i + 1) = m from by have h := HMN.out; rw [if_neg hg] at h; exact h.symm)
          go_wp2
          go_roundg g0
          case measure => omega
          case rel => exact ⟨i + 1, by first | rfl | (congr 1; push_cast; rfl), by rw [HM2.out], ⟨by have := HG.out; omega⟩, ⟨rfl⟩⟩
    · obtain rfl : i = x.length := by have := HG.out; omega
      clear hi
      have hmg := (HMG.out x.length).1
      have hml := (HMG.out x.length).2
      have hnb := HNB.out
      have hh := HH.out
      have hbt0 : psalteryref02_Bits.f 1000 (mostUpto x x.length) = some (Go.Proofs.Ytblehkoonajofaa.LogsBaseTns.nbits (mostUpto x x.length)) := Go.Proofs.Ytblehkoonajofaa.RefLogsTns.rBits_eq hmg (by omega) (by decide)
      generalize mostUpto x x.length = m at hmg hml hnb hh hbt0 ⊢
      generalize Go.Proofs.Ytblehkoonajofaa.LogsBaseTns.nbits m = nb at hnb hh hbt0
      obtain ⟨H, hH⟩ : ∃ H, H = hV x := ⟨_, rfl⟩
      rw [← hH] at hh
      have HHE := Aside0.mk hH
      have HHH := Aside0.mk (show H ≤ 17 from by rw [hH]; exact HHL.out)
      have HBTS := Aside0.mk hbt0
      have hin : ¬ ((x.length : Int) < (x.length : Int)) := by omega
      have huw : IntKind.u64.wrap m = m := by rw [IntKind.wrap]; simp [IntKind.bits, IntKind.signed]; omega
      have hbw : IntKind.i64.wrap (nb - 15) = nb - 15 := by rw [i64_w]; unfold wrap64; omega
      have hhe := hh.symm
      unfold mx at hhe
      clear hH hh hbt0 hmg hml hnb
      go_wp2_with (first | (go_at_call 69; refine (psalteryref02_Bits.calls 1000 m nb _ HBTS.out).mono ?_; rintro e w3 ⟨rfl, hb_⟩; obtain ⟨q8, hq8⟩ := hb_.out; have hbw3 := (show Below wr.heap.size wr w3 from (by rw [hq8]; exact pw_below_drewN (Below.refl _ _) _)); have HB3 := Aside0.mk (below_step HBB.out hbw3); have HX3 := Aside0.mk (box_later HBX.out hbw3); clear hb_ hq8 hbw3))
      have HAE := Aside0.mk (show ∀ i, aV x i = x.getD i 0 / 2 ^ H from fun i => by rw [HHE.out]; rfl)
      have HAL := Aside0.mk (fun i (hi : i < x.length) => aL_at x hi)
      have HLL := Aside0.mk (aL_length x)
      have HAR := Aside0.mk (fun (i : Nat) (hi : i < x.length) => aV_range HX.out i hi)
      obtain ⟨L, hL⟩ : ∃ L, L = aL x := ⟨_, rfl⟩
      rw [← hL] at HAL HLL
      have HLE := Aside0.mk hL
      clear hL huw hbw hhe hin
      go_loopg [7, 8, 47, 48, 49, 50, 51, 52, 53, 54, 55, 56, 57, 58, 59, 60, 61, 62] x.length (fun kq v7 v8 v47 v48 v49 v50 v51 v52 v53 v54 v55 v56 v57 v58 v59 v60 v61 v62 wx => ∃ (i : Nat) (u : Value), v8 = .int .i64 (i : Int) ∧ v7 = u ∧ Aside0 (kq + i = x.length) ∧ Aside0 (wx.heap[w.heap.size]? = some (.cells #[.int .i64 0, .int .i64 0, .int .i64 0, .int .i64 0, .int .i64 0] 63 (0, 0))) ∧ Aside0 (wx.ownsRow w.heap.size 2 1 u (L.take i).length (nums .i64 (L.take i))) ∧ Aside0 (Below w.heap.size w wx))
      case atStart => exact ⟨0, _, rfl, rfl, ⟨rfl⟩, HX3, ⟨own_nil _ _ _ _⟩, HB3⟩
      case round =>
        clear HX3 HB3
        obtain ⟨i, u, rfl, rfl, HG, HXX, HOW, HB⟩ := hrel
        by_cases hi : i < x.length
        · have hi0 : (0 : Int) ≤ i := by omega
          have hin : (i : Int) < (x.length : Int) := by omega
          obtain ⟨adx, eA, hcx⟩ := HR.out.2.2 (by omega)
          subst eA
          have hc0 := hcx i hi
          have hc := (HB.out.cell (World.block_lt_of_cell? _ _ hc0)).trans hc0
          have hxi := HX.out i
          have hae := HAE.out i
          have hdn := rdown_of hxi HHH.out
          rw [← hae] at hdn
          have HAL2 := Aside0.mk (HAL.out i hi)
          unfold In32 at hxi
          generalize x.getD i 0 = v at hc0 hc hxi hdn
          rw [← HAL2.out] at hdn
          obtain ⟨ai, hai⟩ : ∃ ai, ai = L.getD i 0 := ⟨_, rfl⟩
          rw [← hai] at hdn
          have HAI := Aside0.mk hai
          have HDN := Aside0.mk hdn
          have hvw : IntKind.i64.wrap v = v := by rw [i64_w]; unfold wrap64; omega
          have hwi : IntKind.i64.wrap ((i : Int) + 1) = ((i + 1 : Nat) : Int) := by rw [i64_w]; unfold wrap64; have := HN.out; omega
          obtain ⟨g0, rfl⟩ : ∃ g0, gk = g0 + 1 := ⟨gk - 1, by have := HG.out; omega⟩
          have HTL := Aside0.mk (show (L.take i).length ≤ 120 from by rw [List.length_take]; have := HN.out; omega)
          have HNX := Aside0.mk (show L.take i ++ [L.getD i 0] = L.take (i + 1) from take_next (by rw [HLL.out]; exact hi))
          clear hc0 hi hae hdn hai hxi
          go_wp2_with (first | (go_at_call 70; refine (psalteryref17_down.calls 1000 v (H : Int) ai _ HDN.out).mono ?_; rintro e w4 ⟨rfl, hb_⟩; obtain ⟨q8, hq8⟩ := hb_.out; have hbw4 := (show Below wr.heap.size wr w4 from (by rw [hq8]; exact pw_below_drewN (Below.refl _ _) _)); have HB4 := Aside0.mk (below_step HB.out hbw4); have HX4 := Aside0.mk (box_later HXX.out hbw4); have HO4 := Aside0.mk (HOW.out.kept (grown_of_below hbw4 none) (by cases Value.ownBlock _ <;> simp)); clear hb_ hq8 hbw4) | (at_builtin; refine print_append_num (w0 := w) (W := w4) w.heap.size rfl (.tmp 53) (.tmp 61) 26 2 .i64 8 rfl Try.underlying26 info_i64 (by decide) u7 (L.take i) ai rfl rfl HO4.out HB4.out (below_size HB4.out) (by have := HTL.out; omega) ?_; intro v1 w5 g1 g2 g3 g4; have HO5 := Aside0.mk g1; have HB5 := Aside0.mk g2; have HX5 := Aside0.mk ((g3.block _ (blk_lt HX4.out) (own_ne HO4.out HX4.out (by decide))).trans HX4.out); clear g1 g2 g3 g4))
          rw [HAI.out, HNX.out] at HO5
          go_roundg g0
          case measure => omega
          case rel => exact ⟨i + 1, _, by first | rfl | (congr 1; push_cast; rfl), rfl, ⟨by have := HG.out; omega⟩, HX5, HO5, HB5⟩
        · obtain rfl : i = x.length := by have := HG.out; omega
          clear hi
          have hin : ¬ ((x.length : Int) < (x.length : Int)) := by omega
          rw [List.take_of_length_le (by rw [HLL.out]; exact Nat.le_refl _), HLL.out] at HOW
          have HSZ := Aside0.mk (show w.heap.size < wr.heap.size from blk_lt HXX.out)
          have HX3 := Aside0.mk (box_later HXX.out (below_alloc (Below.refl wr.heap.size wr) (.cells (nums .i64 z5).toArray 113)))
          have HY3 := Aside0.mk (blk_new wr (.cells (nums .i64 z5).toArray 113))
          have HB3 := Aside0.mk (below_alloc HB.out (.cells (nums .i64 z5).toArray 113))
          have HO3 := Aside0.mk (HOW.out.kept (grown_of_below (below_alloc (Below.refl wr.heap.size wr) (.cells (nums .i64 z5).toArray 113)) none) (by cases Value.ownBlock _ <;> simp))
          go_wp2
          change Code.wp _ _ _ _ (wr.alloc (.cells (nums .i64 z5).toArray 113))
          generalize wr.alloc (.cells (nums .i64 z5).toArray 113) = w3 at HX3 HY3 HB3 HO3 ⊢
          generalize wr.heap.size = br at HY3 HSZ ⊢
          clear HXX HOW HB hin
          have HRA := Aside0.mk (fun (j : Nat) (hj : j < 5) => corrL_at x hj)
          have HRL := Aside0.mk (corrL_length x)
          have HRI := Aside0.mk (corrL_in HX.out HN.out)
          obtain ⟨R, hR⟩ : ∃ R, R = corrL x := ⟨_, rfl⟩
          rw [← hR] at HRA HRL HRI
          have HRE := Aside0.mk hR
          have HCR := Aside0.mk (fun (j : Nat) => corr_range (aV x) j x.length (fun i hi => aV_range HX.out i hi))
          clear hR
          generalize aV x = a at HRA HCR HAR HAE HAL
          obtain ⟨n, hnn⟩ : ∃ n, n = x.length := ⟨_, rfl⟩
          rw [← hnn] at HRA HCR HAR HAL HLL HO3 HN
          have HNE := Aside0.mk hnn
          clear HR HX HMG HNB HMS HH HHL HBB HBX HBTS HAE HHE HHH HLE HG hnn
          clear HG
          generalize u7 = ua at *
          obtain ⟨Au, cA, eUA⟩ := own_form HO3.out
          subst eUA
          go_loopg [10, 11, 63, 64, 65, 66, 67, 68, 69, 70, 71, 72, 73, 74, 75, 76, 77, 78, 79, 80, 81, 82, 83, 84, 85, 86, 87, 88, 89, 90, 91] 5 (fun kq v10 v11 v63 v64 v65 v66 v67 v68 v69 v70 v71 v72 v73 v74 v75 v76 v77 v78 v79 v80 v81 v82 v83 v84 v85 v86 v87 v88 v89 v90 v91 wx => ∃ j : Nat, v10 = .int .i64 (j : Int) ∧ Aside0 (kq + j = 5) ∧ Aside0 (wx.heap[w.heap.size]? = some (.cells #[.int .i64 0, .int .i64 0, .int .i64 0, .int .i64 0, .int .i64 0] 63 (0, 0))) ∧ Aside0 (wx.heap[br]? = some (.cells (nums .i64 (R.take j ++ z5.drop j)).toArray 113 (0, 0))) ∧ Aside0 (wx.ownsRow w.heap.size 2 1 (.slice Au n cA) n (nums .i64 L)) ∧ Aside0 (Below w.heap.size w wx))
          case atStart => exact ⟨0, rfl, ⟨rfl⟩, HX3, HY3, HO3, HB3⟩
          case round =>
            clear HX3 HY3 HB3 HO3
            obtain ⟨j, rfl, HG, HX4, HY, HO, HB⟩ := hrel
            by_cases hj : j < 5
            · have hj0 : (0 : Int) ≤ j := by omega
              have hj5 : (j : Int) < 5 := by omega
              obtain ⟨gO, rfl⟩ : ∃ gO, gk = gO + 1 := ⟨gk - 1, by have := HG.out; omega⟩
              have HJJ := Aside0.mk hj
              have HML := Aside0.mk (show (R.take j ++ z5.drop j).length = 5 from by rw [List.length_append, List.length_take, List.length_drop, HRL.out]; show min j 5 + (5 - j) = 5; omega)
              have hz0 : (R.take j ++ z5.drop j).getD j 0 = 0 := by
                rw [mix_at hj HRL.out rfl]
                have hc : j = 0 ∨ j = 1 ∨ j = 2 ∨ j = 3 ∨ j = 4 := by omega
                rcases hc with rfl | rfl | rfl | rfl | rfl <;> rfl
              have HMS2 := Aside0.mk (show (R.take j ++ z5.drop j).set j (corr a j n) = R.take (j + 1) ++ z5.drop (j + 1) from by rw [← HRA.out j hj]; exact mix_set hj HRL.out rfl)
              obtain ⟨B, hB⟩ : ∃ B, B = R.take j ++ z5.drop j := ⟨_, rfl⟩
              rw [← hB] at HY HML hz0 HMS2
              have HY0 := Aside0.mk (show wr.heap[br]? = some (.cells (nums .i64 (B.set j (corr a j (j + 0)))).toArray 113 (0, 0)) from by
                rw [HY.out, corr_start a j (j + 0) (Nat.le_refl _), ← hz0, List.getD_eq_getElem?_getD, List.getElem?_eq_getElem (by rw [HML.out]; exact hj)]; simp)
              clear hB hz0 hj
              go_wp2
              go_loopg [11, 67, 68, 69, 70, 71, 72, 73, 74, 75, 76, 77, 78, 79, 80, 81, 82, 83, 84, 85, 86, 87, 88, 89, 90, 91] (n - j) (fun kq v11 v67 v68 v69 v70 v71 v72 v73 v74 v75 v76 v77 v78 v79 v80 v81 v82 v83 v84 v85 v86 v87 v88 v89 v90 v91 wx => ∃ t : Nat, v11 = .int .i64 (t : Int) ∧ Aside0 (kq = n - j - t ∧ (t = 0 ∨ j + t ≤ n)) ∧ Aside0 (wx.heap[w.heap.size]? = some (.cells #[.int .i64 0, .int .i64 0, .int .i64 0, .int .i64 0, .int .i64 0] 63 (0, 0))) ∧ Aside0 (wx.heap[br]? = some (.cells (nums .i64 (B.set j (corr a j (j + t)))).toArray 113 (0, 0))) ∧ Aside0 (wx.ownsRow w.heap.size 2 1 (.slice Au n cA) n (nums .i64 L)) ∧ Aside0 (Below w.heap.size w wx))
              case atStart => exact ⟨0, rfl, ⟨by omega, .inl rfl⟩, ⟨HX4.out⟩, ⟨HY0.out⟩, ⟨HO.out⟩, ⟨HB.out⟩⟩
              case round =>
                clear HY0 HY HB HX4 HO
                obtain ⟨t, rfl, HG2, HX4, HY, HO, HB⟩ := hrel
                have hwt : IntKind.i64.wrap ((t : Int) + (j : Int)) = (t : Int) + (j : Int) := by rw [i64_w]; unfold wrap64; have := HN.out; have := HG2.out; have := HJJ.out; omega
                by_cases hi : t + j < n
                · have hi0 : (0 : Int) ≤ t := by omega
                  have hin : (t : Int) + (j : Int) < (n : Int) := by omega
                  have hin2 : ((t + j : Nat) : Int) < (n : Int) := by omega
                  have htn : (t : Int) < (n : Int) := by omega
                  have htj0 : (0 : Int) ≤ (t : Int) + (j : Int) := by omega
                  have httn : ((t : Int) + (j : Int)).toNat = t + j := by omega
                  have hd1 := own_at HO.out HLL.out (j := t) (by omega)
                  have hd2 := own_at HO.out HLL.out (j := t + j) hi
                  obtain ⟨gA, eA1, hd1⟩ := hd1
                  obtain ⟨gA3, eA3, hd2⟩ := hd2
                  subst eA1
                  cases eA3
                  rw [HAL.out t (by omega)] at hd1
                  rw [HAL.out (t + j) hi] at hd2
                  have hr1 := HAR.out t (by omega)
                  have hr2 := HAR.out (t + j) hi
                  have hcr := HCR.out j (j + t) (by omega)
                  have hcs := corr_step a j t
                  have hbl : (B.set j (corr a j (j + t))).length = 5 := by rw [List.length_set, HML.out]
                  have hacc := nums_at HY.out (i := j) (by rw [hbl]; exact HJJ.out)
                  rw [show (B.set j (corr a j (j + t))).getD j 0 = corr a j (j + t) from by rw [List.getD_eq_getElem?_getD, List.getElem?_set_self (by rw [HML.out]; exact HJJ.out)]; rfl] at hacc
                  have hof : wr.frozen? ⟨br, j, none⟩ = false := blk_frozen HY.out j
                  generalize corr a j (j + t) = acc at hcr hcs hacc HY
                  generalize a t = p1 at hd1 hr1 hcs
                  generalize a (t + j) = p2 at hd2 hr2 hcs
                  have hprod := Go.Proofs.Ytblehkoonajofaa.Num.mul_abs (a := p1) (b := p2) (A := 32768) (B := 32768) (by omega) (by omega) (by omega) (by omega)
                  obtain ⟨PP, hPP⟩ : ∃ PP, PP = p1 * p2 := ⟨_, rfl⟩
                  rw [← hPP] at hcs hprod
                  have hpw : IntKind.i64.wrap (p1 * p2) = PP := by rw [← hPP, i64_w]; unfold wrap64; omega
                  have haw : IntKind.i64.wrap (acc + PP) = acc + PP := by rw [i64_w]; unfold wrap64; have := HN.out; have := HJJ.out; omega
                  have hwi : IntKind.i64.wrap ((t : Int) + 1) = ((t + 1 : Nat) : Int) := by rw [i64_w]; unfold wrap64; have := HN.out; omega
                  have HCS := Aside0.mk hcs
                  have HII := Aside0.mk hi
                  have HOL := Aside0.mk (own_ne HO.out HY.out (by decide))
                  have hd1d : wr.drew.cell? ⟨gA, t, none⟩ = some (.int .i64 p1) := hd1
                  have hd2d : wr.drew.cell? ⟨gA, t + j, none⟩ = some (.int .i64 p2) := hd2
                  have haccd : wr.drew.cell? ⟨br, j, none⟩ = some (.int .i64 acc) := hacc
                  obtain ⟨g1, rfl⟩ : ∃ g1, gk = g1 + 1 := ⟨gk - 1, by have := HG2.out; omega⟩
                  clear hcs hi hbl hprod hPP hcr hr1 hr2
                  go_wp2
                  go_still_tail 17, (by kernel_rfl)
                  repeat still_step
                  try refine wpStill_nil ?_
                  change wpList _ _ _ _ _ wr.drew
                  have hof2 : wr.drew.frozen? ⟨br, j, none⟩ = false := hof
                  have HYd := Aside0.mk (show wr.drew.heap[br]? = some (.cells (nums .i64 (B.set j acc)).toArray 113 (0, 0)) from HY.out)
                  have HXd := Aside0.mk (show wr.drew.heap[w.heap.size]? = some (.cells #[.int .i64 0, .int .i64 0, .int .i64 0, .int .i64 0, .int .i64 0] 63 (0, 0)) from HX4.out)
                  have HOd := Aside0.mk (HO.out.kept (grown_of_below (below_drew (Below.refl wr.heap.size wr)) none) (by cases Value.ownBlock _ <;> simp))
                  have HBd := Aside0.mk (below_drew HB.out)
                  have HYe := Aside0.mk (blk_store HYd.out j (acc + PP))
                  rw [List.set_set] at HYe
                  have HXe := Aside0.mk ((Below.heap_setCell wr.drew ⟨br, j, none⟩ (.int .i64 (acc + PP)) w.heap.size (by have := HSZ.out; dsimp; omega)).trans HXd.out)
                  have HBe := Aside0.mk (HBd.out.setCell (p := ⟨br, j, none⟩) (by have := HSZ.out; dsimp; omega) (.int .i64 (acc + PP)))
                  have HOe := Aside0.mk (own_setCell (p := ⟨br, j, none⟩) HOd.out HOL.out (.int .i64 (acc + PP)))
                  clear hacc hd1 hd2 hof
                  generalize wr.drew = wd at haccd hd1d hd2d hof2 HYe HXe HBe HOe HYd HXd HBd HOd ⊢
                  go_wp2
                  go_roundg g1
                  case measure => omega
                  case rel => exact ⟨t + 1, by first | rfl | (congr 1; push_cast; rfl), ⟨by have := HG2.out.1; have := HII.out; omega, by have := HII.out; omega⟩, HXe, ⟨by rw [HCS.out]; exact HYe.out⟩, HOe, HBe⟩
                · have hin2 : ¬ ((t : Int) + (j : Int) < (n : Int)) := by omega
                  have hin3 : ¬ (((t + j : Nat) : Int) < (n : Int)) := by omega
                  have hcR : corr a j (j + t) = corr a j n := corr_end a j t n (by omega) (by have := HG2.out.2; omega)
                  have HY9 := Aside0.mk (show wr.heap[br]? = some (.cells (nums .i64 (R.take (j + 1) ++ z5.drop (j + 1))).toArray 113 (0, 0)) from by
                    rw [HY.out, hcR, HMS2.out])
                  have hwj : IntKind.i64.wrap ((j : Int) + 1) = ((j + 1 : Nat) : Int) := by rw [i64_w]; unfold wrap64; have := HJJ.out; omega
                  clear hi hcR
                  go_wp2
                  go_roundg gO
                  case measure => omega
                  case rel => exact ⟨j + 1, by first | rfl | (congr 1; push_cast; rfl), ⟨by have := HG.out; omega⟩, HX4, HY9, HO, HB⟩
            · obtain rfl : j = 5 := by have := HG.out; omega
              clear hj
              have HY9 := Aside0.mk (show wr.heap[br]? = some (.cells (nums .i64 R).toArray 113 (0, 0)) from by have h1 := HY.out; rw [show z5.drop 5 = [] from rfl, List.append_nil, List.take_of_length_le (by rw [HRL.out]; exact Nat.le_refl _)] at h1; exact h1)
              obtain ⟨f0, f1, f2, f3, f4, h5⟩ := five HRL.out
              have HA1 := Aside0.mk (below_alloc (Below.refl wr.heap.size wr) (.cells #[.int .i64 f1, .int .i64 f2, .int .i64 f3, .int .i64 f4] 2))
              have HA2 := Aside0.mk (below_alloc HA1.out (.cells #[.int .i64 f0, .int .i64 f1, .int .i64 f2, .int .i64 f3] 2))
              have HT2 := Aside0.mk (two_new wr (.cells #[.int .i64 f1, .int .i64 f2, .int .i64 f3, .int .i64 f4] 2) (.cells #[.int .i64 f0, .int .i64 f1, .int .i64 f2, .int .i64 f3] 2))
              have x0 := (blk_cell HY9.out 0).trans (show (nums .i64 R).toArray[0]? = some (.int .i64 f0) from by rw [h5]; rfl)
              have x1 := (blk_cell HY9.out 1).trans (show (nums .i64 R).toArray[1]? = some (.int .i64 f1) from by rw [h5]; rfl)
              have x2 := (blk_cell HY9.out 2).trans (show (nums .i64 R).toArray[2]? = some (.int .i64 f2) from by rw [h5]; rfl)
              have x3 := (blk_cell HY9.out 3).trans (show (nums .i64 R).toArray[3]? = some (.int .i64 f3) from by rw [h5]; rfl)
              have x4 := (blk_cell HY9.out 4).trans (show (nums .i64 R).toArray[4]? = some (.int .i64 f4) from by rw [h5]; rfl)
              have y0 := (HA1.out.cell (World.block_lt_of_cell? wr _ x0)).trans x0
              have y1 := (HA1.out.cell (World.block_lt_of_cell? wr _ x1)).trans x1
              have y2 := (HA1.out.cell (World.block_lt_of_cell? wr _ x2)).trans x2
              have y3 := (HA1.out.cell (World.block_lt_of_cell? wr _ x3)).trans x3
              have HU0 := Aside0.mk (show uR R 0 = [f1, f2, f3, f4] from by rw [h5]; rfl)
              have HV0 := Aside0.mk (show vR R 0 = [f0, f1, f2, f3] from by rw [h5]; rfl)
              have HLT := Aside0.mk (blk_lt HY9.out)
              have HLX := Aside0.mk (blk_lt HX4.out)
              have HBS := Aside0.mk (below_size HB.out)
              clear h5 HY HO
              go_wp2_with (first | (refine wpList_store_row rfl 63 _ _ rfl ((wr.alloc (.cells #[.int .i64 f1, .int .i64 f2, .int .i64 f3, .int .i64 f4] 2)).alloc (.cells #[.int .i64 f0, .int .i64 f1, .int .i64 f2, .int .i64 f3] 2)).heap.size #[.int .i64 1, .int .i64 0, .int .i64 0, .int .i64 0, .int .i64 0] rfl rfl 63 #[.int .i64 0, .int .i64 0, .int .i64 0, .int .i64 0, .int .i64 0] (blk_new ((wr.alloc (.cells #[.int .i64 f1, .int .i64 f2, .int .i64 f3, .int .i64 f4] 2)).alloc (.cells #[.int .i64 f0, .int .i64 f1, .int .i64 f2, .int .i64 f3] 2)) _) (by kernel_rfl) (by kernel_rfl) (by kernel_rfl) ?_))
              have hsz2 : ((wr.alloc (.cells #[.int .i64 f1, .int .i64 f2, .int .i64 f3, .int .i64 f4] 2)).alloc (.cells #[.int .i64 f0, .int .i64 f1, .int .i64 f2, .int .i64 f3] 2)).heap.size = wr.heap.size + 1 + 1 := (Array.size_push _).trans (congrArg (· + 1) (Array.size_push _))
              have HD7 := Aside0.mk (show RQ w br (wr.heap.size + 1 + 1) R z4 (uR R 0) (vR R 0) (.slice (some ⟨wr.heap.size, 0, none⟩) 4 4) (.slice (some ⟨wr.heap.size + 1, 0, none⟩) 4 4) (((wr.alloc (.cells #[.int .i64 f1, .int .i64 f2, .int .i64 f3, .int .i64 f4] 2)).alloc (.cells #[.int .i64 f0, .int .i64 f1, .int .i64 f2, .int .i64 f3] 2)).alloc (.cells #[.int .i64 1, .int .i64 0, .int .i64 0, .int .i64 0, .int .i64 0] 63)) from by
                have HA3 := below_alloc HA2.out (.cells #[.int .i64 1, .int .i64 0, .int .i64 0, .int .i64 0, .int .i64 0] 63)
                have HN3 := below_alloc (Below.refl ((wr.alloc (.cells #[.int .i64 f1, .int .i64 f2, .int .i64 f3, .int .i64 f4] 2)).alloc (.cells #[.int .i64 f0, .int .i64 f1, .int .i64 f2, .int .i64 f3] 2)).heap.size ((wr.alloc (.cells #[.int .i64 f1, .int .i64 f2, .int .i64 f3, .int .i64 f4] 2)).alloc (.cells #[.int .i64 f0, .int .i64 f1, .int .i64 f2, .int .i64 f3] 2))) (.cells #[.int .i64 1, .int .i64 0, .int .i64 0, .int .i64 0, .int .i64 0] 63)
                refine ⟨box_later HX4.out HA3, box_later HY9.out HA3, ?_, ?_, ?_, below_step HB.out HA3, by have := HLX.out; omega, by have := HLT.out; omega⟩
                · rw [← hsz2]; exact blk_new _ _
                · rw [HU0.out]; exact own_of_blk HBS.out (box_later HT2.out.1 HN3) rfl (by decide)
                · rw [HV0.out]; exact own_of_blk (by have := HBS.out; omega) (box_later HT2.out.2 HN3) rfl (by decide))
              generalize ((wr.alloc (.cells #[.int .i64 f1, .int .i64 f2, .int .i64 f3, .int .i64 f4] 2)).alloc (.cells #[.int .i64 f0, .int .i64 f1, .int .i64 f2, .int .i64 f3] 2)).alloc (.cells #[.int .i64 1, .int .i64 0, .int .i64 0, .int .i64 0, .int .i64 0] 63) = w7 at HD7 ⊢
              generalize wr.heap.size + 1 + 1 = bf at HD7 ⊢
              clear hsz2 HA1 HA2 HT2 x0 x1 x2 x3 x4 y0 y1 y2 y3 HU0 HV0 HLT HLX HBS HX4 HB HY9 HSZ HRA HCR HAR HAL HLL HN HNE HG
              generalize u11 = u11_ at *
              go_loopg [12, 13, 15, 16, 17, 18, 19, 20, 21, 22, 111, 112, 113, 114, 115, 116, 117, 118, 119, 120, 121, 122, 123, 124, 125, 126, 127, 128, 129, 130, 131, 132, 133, 134, 135, 136, 137, 138, 139, 140, 141, 142, 143, 144, 145, 146, 147, 148, 149, 150, 151, 152, 153, 154, 155, 156, 157, 158, 159, 160, 161, 162, 163, 164, 165, 166, 167, 168, 169, 170, 171, 172, 173, 174, 175, 176, 177, 178, 179, 180, 181, 182, 183, 184, 185, 186, 187, 188, 189, 190, 191, 192, 193, 194, 195, 196, 197, 198] 4 (fun kq v12 v13 v15 v16 v17 v18 v19 v20 v21 v22 v111 v112 v113 v114 v115 v116 v117 v118 v119 v120 v121 v122 v123 v124 v125 v126 v127 v128 v129 v130 v131 v132 v133 v134 v135 v136 v137 v138 v139 v140 v141 v142 v143 v144 v145 v146 v147 v148 v149 v150 v151 v152 v153 v154 v155 v156 v157 v158 v159 v160 v161 v162 v163 v164 v165 v166 v167 v168 v169 v170 v171 v172 v173 v174 v175 v176 v177 v178 v179 v180 v181 v182 v183 v184 v185 v186 v187 v188 v189 v190 v191 v192 v193 v194 v195 v196 v197 v198 wx => ∃ (m : Nat) (u v : Value), v16 = .int .i64 (m : Int) ∧ v12 = u ∧ v13 = v ∧ v15 = .bool (eightsB R m) ∧ Aside0 (kq + m = 4) ∧ Aside0 (RQ w br bf R ((idxS R).take m ++ z4.drop m) (uR R m) (vR R m) u v wx))
              case atStart => exact ⟨0, _, _, rfl, rfl, rfl, rfl, ⟨rfl⟩, ⟨HD7.out⟩⟩
              case round =>
                clear HD7
                obtain ⟨m, u, v, rfl, rfl, rfl, rfl, HG, HD⟩ := hrel
                by_cases hm : m < 4
                · have hm0 : (0 : Int) ≤ m := by omega
                  have hm4 : (m : Int) < 4 := by omega
                  have hUl := uR_length HRL.out m
                  have hVl := vR_length HRL.out m
                  have HUI := Aside0.mk (fun j => uR_in R HRL.out HRI.out (Nat.le_of_lt hm) j)
                  have HVI := Aside0.mk (fun j => vR_in R HRL.out HRI.out (Nat.le_of_lt hm) j)
                  have HUN := Aside0.mk (fun j (hj : j + 1 < 4 - m) => uR_next R (m := m) hj)
                  have HVN := Aside0.mk (fun j (hj : j < 4 - m) => vR_next R (m := m) hj)
                  have HU1 := Aside0.mk (uR_length HRL.out (m + 1))
                  have HV1 := Aside0.mk (vR_length HRL.out (m + 1))
                  have hks := kS_of R hm
                  have HKI := Aside0.mk (show -32767 ≤ kS R m ∧ kS R m ≤ 32767 from kV_in _ _)
                  have HE8 := Aside0.mk (eights_next R hm)
                  have hidx := idxS_at R hm
                  have hil : ((idxS R).take m ++ z4.drop m).length = 4 := by rw [List.length_append, List.length_take, List.length_drop, idxS_length]; show min m 4 + (4 - m) = 4; omega
                  have HIM := Aside0.mk (mix_set hm (idxS_length R) (rfl : z4.length = 4))
                  rw [hidx] at HIM
                  obtain ⟨U, hU⟩ : ∃ U, U = uR R m := ⟨_, rfl⟩
                  obtain ⟨V, hV⟩ : ∃ V, V = vR R m := ⟨_, rfl⟩
                  obtain ⟨P, hP⟩ : ∃ P, P = uR R (m + 1) := ⟨_, rfl⟩
                  obtain ⟨Qn, hQ⟩ : ∃ Qn, Qn = vR R (m + 1) := ⟨_, rfl⟩
                  obtain ⟨k, hk⟩ : ∃ k, k = kS R m := ⟨_, rfl⟩
                  rw [← hU] at hUl HUI HUN HVN hks HD
                  rw [← hV] at hVl HVI HUN HVN hks HD
                  rw [← hP] at HUN HU1
                  rw [← hQ] at HVN HV1
                  rw [← hk] at HUN HVN hks HKI HE8 HIM
                  have HPE := Aside0.mk hP
                  have HQE := Aside0.mk hQ
                  obtain ⟨e1, he1⟩ : ∃ e1, e1 = eightsB R m := ⟨_, rfl⟩
                  rw [← he1] at HE8 ⊢
                  obtain ⟨II, hII⟩ : ∃ II, II = (idxS R).take m ++ z4.drop m := ⟨_, rfl⟩
                  rw [← hII] at HD HIM hil
                  have HIL := Aside0.mk hil
                  have HMM := Aside0.mk hm
                  have hn1 : 0 < U.length := by omega
                  have hv1 : U.length ≤ V.length ∧ V.length ≤ U.length + 1 := by rw [hUl, hVl]; split <;> omega
                  obtain ⟨gu, cu, eu⟩ := own_known HD.out.u hn1
                  subst eu
                  obtain ⟨gv, cv, ev⟩ := own_known HD.out.v (by omega)
                  subst ev
                  have HUO := Aside0.mk (fun W JJ (h : RQ w br bf R JJ U V (.slice (some ⟨gu, 0, none⟩) U.length cu) (.slice (some ⟨gv, 0, none⟩) V.length cv) W) j (hj : j < U.length) => own_at2 h.u rfl hj)
                  have HVO := Aside0.mk (fun W JJ (h : RQ w br bf R JJ U V (.slice (some ⟨gu, 0, none⟩) U.length cu) (.slice (some ⟨gv, 0, none⟩) V.length cv) W) j (hj : j < V.length) => own_at2 h.v rfl hj)
                  obtain ⟨n, hn⟩ : ∃ n, n = U.length := ⟨_, rfl⟩
                  obtain ⟨nv, hnv⟩ : ∃ nv, nv = V.length := ⟨_, rfl⟩
                  rw [← hn] at HD HUO HVO hUl hn1 hv1 ⊢
                  rw [← hnv] at HD HUO HVO hVl hv1 ⊢
                  rw [← hUl] at HUN HVN
                  have HNN := Aside0.mk (And.intro hUl hv1)
                  have HPL := Aside0.mk (show P.length + 1 = n ∧ Qn.length = n from by rw [HU1.out, HV1.out, hUl, if_neg (by omega)]; omega)
                  have hu0 := HUO.out wr _ HD.out 0 hn1
                  have hv0 := HVO.out wr _ HD.out 0 (by omega)
                  have hbu := HUI.out 0
                  have hbv := HVI.out 0
                  have hn0 : (0 : Int) < (n : Int) := by omega
                  have hnv1 : 0 < nv := by omega
                  have hnv0 : (0 : Int) < (nv : Int) := by omega
                  generalize U.getD 0 0 = u0 at hu0 hks hbu
                  generalize V.getD 0 0 = v0 at hv0 hks hbv
                  obtain ⟨gO, rfl⟩ : ∃ gO, gk = gO + 1 := ⟨gk - 1, by have := HG.out; omega⟩
                  clear hU hV hP hQ hk he1 hII hil hm hUl hVl hv1 hn hnv hidx HU1 HV1
                  go_upto_if 118 with (fail)
                  go_cut [17] (fun s17 wx => s17 = .int .i64 k ∧ Aside0 (RQ w br bf R II U V (.slice (some ⟨gu, 0, none⟩) n cu) (.slice (some ⟨gv, 0, none⟩) nv cv) wx))
                  case first =>
                    by_cases hv0p : v0 > 0
                    · rw [if_pos hv0p] at hks
                      have hnu : IntKind.i64.wrap (-u0) = -u0 := by rw [i64_w]; unfold wrap64; omega
                      have hmu : IntKind.i64.wrap (-u0 * 32768) = -u0 * 32768 := by rw [i64_w]; unfold wrap64; omega
                      have hv0n : v0 ≠ 0 := by omega
                      have hv0b : (v0 == 0) = false := by simp [hv0n]
                      obtain ⟨Dq, hDq⟩ : ∃ Dq, Dq = Int.tdiv (-u0 * 32768) v0 := ⟨_, rfl⟩
                      rw [← hDq] at hks
                      have hdq := hDq.symm
                      have hdr : -9223372036854775808 ≤ Dq ∧ Dq ≤ 9223372036854775807 := by
                        have h1 : Dq.natAbs ≤ (-u0 * 32768).natAbs := by rw [hDq, Int.natAbs_tdiv]; exact Nat.div_le_self _ _
                        omega
                      have hdw : IntKind.i64.wrap Dq = Dq := by rw [i64_w]; unfold wrap64; omega
                      obtain ⟨c1, hc1⟩ : ∃ c1, c1 = (if (32767 : Int) < Dq then 32767 else Dq) := ⟨_, rfl⟩
                      have HC1 := Aside0.mk hc1.symm
                      have HC2 := Aside0.mk (show (if c1 < -32767 then (-32767 : Int) else c1) = k from by rw [hks, hc1]; unfold Go.Proofs.Ytblehkoonajofaa.Num.clip; (repeat' split) <;> omega)
                      clear hks hDq hdr hbu hbv hc1
                      go_wp2
                      go_quiet (fail)
                      have hc1' := HC1.out
                      have hc2' := HC2.out
                      have HDq := Aside0.mk (HD.out.later (pw_below_drewN (Below.refl wr.heap.size wr) nq))
                      clear hu0 hv0
                      generalize wr.drewN nq = wq at HDq ⊢
                      go_wp2_with fail
                      go_meet
                      exact ⟨rfl, HDq⟩
                    · rw [if_neg hv0p] at hks
                      have HK0 := Aside0.mk hks
                      clear hks hbu hbv
                      go_wp2_with fail
                      go_meet
                      exact ⟨by rw [HK0.out], HD⟩
                  case rest =>
                    obtain ⟨rfl, HDq⟩ := hcut
                    clear hu0 hv0 hks hbu hbv
                    go_wp2
                    go_loopg [18, 19, 131, 132, 133, 134, 135, 136, 137, 138, 139, 140, 141, 142, 143, 144] 17 (fun kq v18 v19 v131 v132 v133 v134 v135 v136 v137 v138 v139 v140 v141 v142 v143 v144 wx => ∃ i : Nat, v19 = .int .i64 (i : Int) ∧ v18 = .int .i64 ((nearUpto k i : Nat) : Int) ∧ Aside0 (kq + i = 18 ∧ 1 ≤ i ∧ i ≤ 17) ∧ Aside0 (RQ w br bf R II U V (.slice (some ⟨gu, 0, none⟩) n cu) (.slice (some ⟨gv, 0, none⟩) nv cv) wx))
                    case atStart => exact ⟨1, rfl, by rw [near_one]; rfl, ⟨by omega⟩, ⟨HDq.out⟩⟩
                    case round =>
                      clear HDq HD
                      obtain ⟨i, rfl, rfl, HG2, HD⟩ := hrel
                      by_cases hi : i < 17
                      · have hie : (0 : Int) ≤ (i : Int) := by omega
                        have hi17 : (i : Int) < 17 := by omega
                        have hb16 := nearUpto_le k i (by omega)
                        have hp1 := rpart_of (i := (i : Int)) (by omega) (by omega)
                        have hp2 := rpart_of (i := ((nearUpto k i : Nat) : Int)) (by omega) (by omega)
                        have ha1 := rapart_of HKI.out (i := i) (by omega)
                        have ha2 := rapart_of HKI.out hb16
                        have hnx : nearUpto k (i + 1) = if apartV k i < apartV k (nearUpto k i) then i else nearUpto k i := rfl
                        generalize nearUpto k i = b at hp2 ha2 hnx hb16 ⊢
                        generalize partV (i : Int) = p1 at hp1 ha1
                        generalize partV (b : Int) = p2 at hp2 ha2
                        generalize apartV k i = d1 at ha1 hnx
                        generalize apartV k b = d2 at ha2 hnx
                        have HP1 := Aside0.mk hp1
                        have HP2 := Aside0.mk hp2
                        have HA1 := Aside0.mk ha1
                        have HA2 := Aside0.mk ha2
                        have hwi : IntKind.i64.wrap ((i : Int) + 1) = ((i + 1 : Nat) : Int) := by rw [i64_w]; unfold wrap64; omega
                        obtain ⟨g1, rfl⟩ : ∃ g1, gk = g1 + 1 := ⟨gk - 1, by have := HG2.out; omega⟩
                        clear hp1 hp2 ha1 ha2 hi hb16
                        by_cases hd : d1 < d2
                        · rw [if_pos hd] at hnx
                          have HNX := Aside0.mk hnx
                          clear hnx
                          go_wp2_with (first | (have hdep_ := HD4; go_at_call 71; refine (psalteryref17_apart.calls k p2 d2 _ HA2.out).mono ?_; rintro e w5 ⟨rfl, hb_⟩; obtain ⟨q8, hq8⟩ := hb_.out; have HD5 := Aside0.mk (HD4.out.later (show Below w4.heap.size w4 w5 from (by rw [hq8]; exact pw_below_drewN (Below.refl _ _) _))); clear hb_ hq8) | (have hdep_ := HD3; go_at_call 45; refine (psalteryref17_Part.calls 1000 (b : Int) p2 _ HP2.out).mono ?_; rintro e w4 ⟨rfl, hb_⟩; have HD4 := Aside0.mk (HD3.out.later hb_); clear hb_) | (have hdep_ := HD2; go_at_call 71; refine (psalteryref17_apart.calls k p1 d1 _ HA1.out).mono ?_; rintro e w3 ⟨rfl, hb_⟩; obtain ⟨q8, hq8⟩ := hb_.out; have HD3 := Aside0.mk (HD2.out.later (show Below w2.heap.size w2 w3 from (by rw [hq8]; exact pw_below_drewN (Below.refl _ _) _))); clear hb_ hq8) | (go_at_call 45; refine (psalteryref17_Part.calls 1000 (i : Int) p1 _ HP1.out).mono ?_; rintro e w2 ⟨rfl, hb_⟩; have HD2 := Aside0.mk (HD.out.later hb_); clear hb_))
                          have HD6 := Aside0.mk (HD5.out)
                          go_roundg g1
                          case measure => omega
                          case rel => exact ⟨i + 1, by first | rfl | (congr 1; push_cast; rfl), by rw [HNX.out], ⟨by have := HG2.out; omega⟩, HD6⟩
                        · rw [if_neg hd] at hnx
                          have HNX := Aside0.mk hnx
                          clear hnx
                          go_wp2_with (first | (have hdep_ := HD4; go_at_call 71; refine (psalteryref17_apart.calls k p2 d2 _ HA2.out).mono ?_; rintro e w5 ⟨rfl, hb_⟩; obtain ⟨q8, hq8⟩ := hb_.out; have HD5 := Aside0.mk (HD4.out.later (show Below w4.heap.size w4 w5 from (by rw [hq8]; exact pw_below_drewN (Below.refl _ _) _))); clear hb_ hq8) | (have hdep_ := HD3; go_at_call 45; refine (psalteryref17_Part.calls 1000 (b : Int) p2 _ HP2.out).mono ?_; rintro e w4 ⟨rfl, hb_⟩; have HD4 := Aside0.mk (HD3.out.later hb_); clear hb_) | (have hdep_ := HD2; go_at_call 71; refine (psalteryref17_apart.calls k p1 d1 _ HA1.out).mono ?_; rintro e w3 ⟨rfl, hb_⟩; obtain ⟨q8, hq8⟩ := hb_.out; have HD3 := Aside0.mk (HD2.out.later (show Below w2.heap.size w2 w3 from (by rw [hq8]; exact pw_below_drewN (Below.refl _ _) _))); clear hb_ hq8) | (go_at_call 45; refine (psalteryref17_Part.calls 1000 (i : Int) p1 _ HP1.out).mono ?_; rintro e w2 ⟨rfl, hb_⟩; have HD2 := Aside0.mk (HD.out.later hb_); clear hb_))
                          have HD6 := Aside0.mk (HD5.out)
                          go_roundg g1
                          case measure => omega
                          case rel => exact ⟨i + 1, by first | rfl | (congr 1; push_cast; rfl), by rw [HNX.out], ⟨by have := HG2.out; omega⟩, HD6⟩
                      · obtain rfl : i = 17 := by have := HG2.out; omega
                        clear hi
                        have hb16 := nearUpto_le k 17 (by decide)
                        obtain ⟨b, hb⟩ : ∃ b, b = nearUpto k 17 := ⟨_, rfl⟩
                        rw [← hb] at HIM HE8 hb16 ⊢
                        have hoc : wr.cell? ⟨bf, 1 + m, none⟩ = some (.int .i64 (II.getD m 0)) := by rw [blk_cell HD.out.f, Nat.add_comm]; exact cons_at (by rw [HIL.out]; exact HMM.out)
                        have hof : wr.frozen? ⟨bf, 1 + m, none⟩ = false := blk_frozen HD.out.f _
                        have HDA := Aside0.mk (HD.out.setF m (b : Int))
                        rw [HIM.out] at HDA
                        obtain ⟨e2, he2⟩ : ∃ e2, e2 = decide ((b : Int) = 8) := ⟨_, rfl⟩
                        rw [← he2] at HE8
                        have hq1 : ((b : Int) == 8) = e2 := by rw [he2]; rfl
                        have HE9 := Aside0.mk (show (e1 && e2) = eightsB R (m + 1) from HE8.out.symm)
                        clear hb he2 HE8 HIM HD HG2
                        go_upto_region 42 with (fail)
                        clear hoc hof
                        generalize wr.setCell ⟨bf, 1 + m, none⟩ (.int .i64 (b : Int)) = wE at HDA ⊢
                        go_cut [15] (fun s15 wx => s15 = .bool (eightsB R (m + 1)) ∧ Aside0 (RQ w br bf R ((idxS R).take (m + 1) ++ z4.drop (m + 1)) U V (.slice (some ⟨gu, 0, none⟩) n cu) (.slice (some ⟨gv, 0, none⟩) nv cv) wx))
                        case first =>
                          have hcase : e1 = true ∨ e1 = false := by cases e1 <;> simp
                          rcases hcase with rfl | rfl
                          all_goals
                            go_wp2_with fail
                            go_meet
                            exact ⟨by rw [← HE9.out]; rfl, HDA⟩
                        case rest =>
                          clear HDA hq1
                          obtain ⟨rfl, HDA⟩ := hcut
                          go_wp2
                          go_loopg [20, 21, 22, 154, 155, 156, 157, 158, 159, 160, 161, 162, 163, 164, 165, 166, 167, 168, 169, 170, 171, 172, 173, 174, 175, 176, 177, 178, 179, 180, 181, 182, 183, 184, 185, 186, 187, 188, 189, 190, 191, 192, 193, 194, 195, 196] n (fun kq v20 v21 v22 v154 v155 v156 v157 v158 v159 v160 v161 v162 v163 v164 v165 v166 v167 v168 v169 v170 v171 v172 v173 v174 v175 v176 v177 v178 v179 v180 v181 v182 v183 v184 v185 v186 v187 v188 v189 v190 v191 v192 v193 v194 v195 v196 wx => ∃ (j : Nat) (p q : Value), v22 = .int .i64 (j : Int) ∧ v20 = p ∧ v21 = q ∧ Aside0 (kq + j = n) ∧ Aside0 (Below wc.heap.size wc wx) ∧ Aside0 (wx.ownsRow wc.heap.size 2 1 p (P.take j).length (nums .i64 (P.take j))) ∧ Aside0 (wx.ownsRow wc.heap.size 2 1 q (Qn.take j).length (nums .i64 (Qn.take j))) ∧ Aside0 (Apart p q))
                          case atStart => exact ⟨0, _, _, rfl, rfl, rfl, ⟨rfl⟩, ⟨Below.refl _ _⟩, ⟨own_nil _ _ _ _⟩, ⟨own_nil _ _ _ _⟩, ⟨Apart.nil _⟩⟩
                          case round =>
                            obtain ⟨j, p, q, rfl, rfl, rfl, HG3, HBF, HPO, HQO, HAP⟩ := hrel
                            by_cases hj : j < n
                            · have hjn : (j : Int) < (n : Int) := by omega
                              have hj0 : (0 : Int) ≤ (j : Int) := by omega
                              have hjv : j < nv := by have := HNN.out; omega
                              have hjv' : (j : Int) < (nv : Int) := by omega
                              have hw1j : IntKind.i64.wrap ((j : Int) + 1) = (j : Int) + 1 := by rw [i64_w]; unfold wrap64; have := HNN.out; omega
                              have HJJ := Aside0.mk hj
                              have HVJ := Aside0.mk (HVN.out j hj)
                              obtain ⟨uj, huj⟩ : ∃ uj, uj = U.getD j 0 := ⟨_, rfl⟩
                              obtain ⟨vj, hvj⟩ : ∃ vj, vj = V.getD j 0 := ⟨_, rfl⟩
                              rw [← huj, ← hvj] at HVJ
                              have HUJ := Aside0.mk huj
                              have HVJ2 := Aside0.mk hvj
                              have hbu := HUI.out j
                              have hbv := HVI.out j
                              rw [← huj] at hbu
                              rw [← hvj] at hbv
                              have hrk2 := rnd15_in HKI.out (by decide : (0 : Int) ≤ 2199023255552) hbu
                              have hpp2 := Go.Proofs.Ytblehkoonajofaa.Num.mul_abs (a := k) (b := uj) (A := 32767) (B := 2199023255552) (by have := HKI.out; omega) (by have := HKI.out; omega) hbu.1 hbu.2
                              obtain ⟨P2, hP2⟩ : ∃ P2, P2 = k * uj := ⟨_, rfl⟩
                              rw [← hP2] at hrk2 hpp2 HVJ
                              have hpw2 : IntKind.i64.wrap (k * uj) = P2 := by rw [← hP2, i64_w]; unfold wrap64; omega
                              have HR2 := Aside0.mk (show psalteryref01_Round.f P2 15 = some (Go.Proofs.Ytblehkoonajofaa.Num.rnd P2 15) from Go.Proofs.Ytblehkoonajofaa.FixBaseTns.rRound_eq 15 (by omega) (by omega))
                              obtain ⟨R2, hR2⟩ : ∃ R2, R2 = Go.Proofs.Ytblehkoonajofaa.Num.rnd P2 15 := ⟨_, rfl⟩
                              rw [← hR2] at hrk2 HR2 HVJ
                              have hsw2 : IntKind.i64.wrap (vj + R2) = vj + R2 := by rw [i64_w]; unfold wrap64; omega
                              obtain ⟨gF, rfl⟩ : ∃ gF, gk = gF + 1 := ⟨gk - 1, by have := HG3.out; omega⟩
                              clear huj hvj hbu hbv hrk2 hpp2 hP2 hR2 hj
                              by_cases hj1 : j + 1 < n
                              · have hj1n : ((j + 1 : Nat) : Int) < (n : Int) := by omega
                                have hj1n' : (j : Int) + 1 < (n : Int) := by omega
                                have hj1v : j + 1 < nv := by have := HNN.out; omega
                                have hj1v' : (j : Int) + 1 < (nv : Int) := by omega
                                have hj11 : (0 : Int) ≤ (j : Int) + 1 := by omega
                                have ht1 : ((j : Int) + 1).toNat = j + 1 := by omega
                                have hu1 := HUO.out wr _ (HDA.out.later HBF.out) (j + 1) hj1
                                have hv1 := HVO.out wr _ (HDA.out.later HBF.out) (j + 1) hj1v
                                have hua := HUN.out j hj1
                                have hbu1 := HUI.out (j + 1)
                                have hbv1 := HVI.out (j + 1)
                                obtain ⟨u1, hu1e⟩ : ∃ u1, u1 = U.getD (j + 1) 0 := ⟨_, rfl⟩
                                obtain ⟨v1, hv1e⟩ : ∃ v1, v1 = V.getD (j + 1) 0 := ⟨_, rfl⟩
                                rw [← hu1e] at hu1 hua hbu1
                                rw [← hv1e] at hv1 hua hbv1
                                have HU1E := Aside0.mk hu1e
                                have HV1E := Aside0.mk hv1e
                                have HJ1 := Aside0.mk hj1
                                clear hu1e hv1e
                                have hrk1 := rnd15_in HKI.out (by decide : (0 : Int) ≤ 2199023255552) hbv1
                                have hpp1 := Go.Proofs.Ytblehkoonajofaa.Num.mul_abs (a := k) (b := v1) (A := 32767) (B := 2199023255552) (by have := HKI.out; omega) (by have := HKI.out; omega) hbv1.1 hbv1.2
                                obtain ⟨P1, hP1⟩ : ∃ P1, P1 = k * v1 := ⟨_, rfl⟩
                                rw [← hP1] at hrk1 hpp1 hua
                                have hpw1 : IntKind.i64.wrap (k * v1) = P1 := by rw [← hP1, i64_w]; unfold wrap64; omega
                                have HR1 := Aside0.mk (show psalteryref01_Round.f P1 15 = some (Go.Proofs.Ytblehkoonajofaa.Num.rnd P1 15) from Go.Proofs.Ytblehkoonajofaa.FixBaseTns.rRound_eq 15 (by omega) (by omega))
                                obtain ⟨R1, hR1⟩ : ∃ R1, R1 = Go.Proofs.Ytblehkoonajofaa.Num.rnd P1 15 := ⟨_, rfl⟩
                                rw [← hR1] at hrk1 HR1 hua
                                have hsw1 : IntKind.i64.wrap (u1 + R1) = u1 + R1 := by rw [i64_w]; unfold wrap64; omega
                                have HUA := Aside0.mk hua
                                have HTP := Aside0.mk (show P.take j ++ [u1 + R1] = P.take (j + 1) from by rw [← hua]; exact take_next (by have := HPL.out; omega))
                                have HTL := Aside0.mk (show (P.take j).length ≤ 1000 from by rw [List.length_take]; have := HPL.out; have := HNN.out; omega)
                                have hu1d : wr.drew.cell? ⟨gu, j + 1, none⟩ = some (.int .i64 u1) := hu1
                                have hv1d : wr.drew.cell? ⟨gv, j + 1, none⟩ = some (.int .i64 v1) := hv1
                                have HBFd := Aside0.mk (below_drew HBF.out)
                                have HPOd := Aside0.mk (HPO.out.kept (grown_of_below (below_drew (Below.refl wr.heap.size wr)) none) (by cases Value.ownBlock _ <;> simp))
                                have HQOd := Aside0.mk (HQO.out.kept (grown_of_below (below_drew (Below.refl wr.heap.size wr)) none) (by cases Value.ownBlock _ <;> simp))
                                clear hua hbu1 hbv1 hrk1 hpp1 hP1 hR1 hj1
                                go_wp2
                                go_region_held3 (fun W => W.cell? ⟨gu, j + 1, none⟩ = some (.int .i64 u1) ∧ W.cell? ⟨gv, j + 1, none⟩ = some (.int .i64 v1)) (first | exact ⟨hu1, hv1⟩ | exact ⟨hu1d, hv1d⟩ | exact ⟨hu1a, hv1a⟩ | exact ⟨hu1b, hv1b⟩ | exact ⟨hu1c, hv1c⟩)
                                  (first | (go_at_call 55; refine (psalteryref01_Round.calls P1 15 R1 _ HR1.out).mono ?_; rintro e wB ⟨rfl, hb_⟩; have HBB := Aside0.mk (below_step HBFd.out hb_); have HPB := Aside0.mk (HPOd.out.kept (grown_of_below hb_ none) (by cases Value.ownBlock _ <;> simp)); have HQB := Aside0.mk (HQOd.out.kept (grown_of_below hb_ none) (by cases Value.ownBlock _ <;> simp)); have hu1a := (hb_.cell (World.block_lt_of_cell? _ _ hu1d)).trans hu1d; have hv1a := (hb_.cell (World.block_lt_of_cell? _ _ hv1d)).trans hv1d; have hbl_ := below_alloc (Below.refl wB.heap.size wB) (.cells #[.int .i64 (u1 + R1)] 2); have hu1b := (hbl_.cell (World.block_lt_of_cell? _ _ hu1a)).trans hu1a; have hv1b := (hbl_.cell (World.block_lt_of_cell? _ _ hv1a)).trans hv1a; have HQB2 := Aside0.mk (HQB.out.kept (grown_of_below hbl_ none) (by cases Value.ownBlock _ <;> simp)); clear hb_ hbl_) | (refine step_push (w0 := wc) (by rfl) (.tmp 165) (.tmp 180) (by rfl) u20 (P.take j) (u1 + R1) (by rfl) (by rfl) HPB.out HBB.out (below_size HBB.out) HTL.out ?_; intro p1 wC g1 g2 g3 g4; have HBC := Aside0.mk g2; have hu1c : wC.cell? ⟨gu, j + 1, none⟩ = some (.int .i64 u1) := (by rw [HU1E.out]; exact HUO.out wC _ (HDA.out.later HBC.out) (j + 1) HJ1.out); have hv1c : wC.cell? ⟨gv, j + 1, none⟩ = some (.int .i64 v1) := (by rw [HV1E.out]; exact HVO.out wC _ (HDA.out.later HBC.out) (j + 1) (Nat.lt_of_lt_of_le HJ1.out HNN.out.2.1)); have HPC := Aside0.mk g1; have HQC := Aside0.mk (HQB2.out.kept g3 HAP.out.ne); have HAC := Aside0.mk (HAP.out.grow HQB.out (Nat.le_refl _) g4); clear g1 g2 g3 g4))
                                rw [HTP.out] at HPC
                                clear hu1 hv1 hu1d hv1d hu1a hv1a hu1b hv1b hu1c hv1c hpw1 hsw1 hj1n hj1n' hj1v hj1v' hj11 ht1
                                try clear hHeld
                                have huc := HUO.out wC _ (HDA.out.later HBC.out) j HJJ.out
                                have hvc := HVO.out wC _ (HDA.out.later HBC.out) j (Nat.lt_of_lt_of_le HJJ.out HNN.out.2.1)
                                rw [← HUJ.out] at huc
                                rw [← HVJ2.out] at hvc
                                have hucd : wC.drew.cell? ⟨gu, j, none⟩ = some (.int .i64 uj) := huc
                                have hvcd : wC.drew.cell? ⟨gv, j, none⟩ = some (.int .i64 vj) := hvc
                                have HBCd := Aside0.mk (below_drew HBC.out)
                                have HPCd := Aside0.mk (HPC.out.kept (grown_of_below (below_drew (Below.refl wC.heap.size wC)) none) (by cases Value.ownBlock _ <;> simp))
                                have HQCd := Aside0.mk (HQC.out.kept (grown_of_below (below_drew (Below.refl wC.heap.size wC)) none) (by cases Value.ownBlock _ <;> simp))
                                have HTQ := Aside0.mk (show Qn.take j ++ [vj + R2] = Qn.take (j + 1) from by rw [← HVJ.out]; exact take_next (by have := HPL.out; have := HJJ.out; omega))
                                have HTQL := Aside0.mk (show (Qn.take j).length ≤ 1000 from by rw [List.length_take]; have := HPL.out; have := HNN.out; omega)
                                go_wp2
                                go_region_held3 (fun W => W.cell? ⟨gu, j, none⟩ = some (.int .i64 uj) ∧ W.cell? ⟨gv, j, none⟩ = some (.int .i64 vj)) (first | exact ⟨huc, hvc⟩ | exact ⟨hucd, hvcd⟩ | exact ⟨hue, hve⟩ | exact ⟨huf, hvf⟩ | exact ⟨hug, hvg⟩)
                                  (first | (go_at_call 55; refine (psalteryref01_Round.calls P2 15 R2 _ HR2.out).mono ?_; rintro e wE ⟨rfl, hb_⟩; have HBE := Aside0.mk (below_step HBCd.out hb_); have HPE_ := Aside0.mk (HPCd.out.kept (grown_of_below hb_ none) (by cases Value.ownBlock _ <;> simp)); have HQE_ := Aside0.mk (HQCd.out.kept (grown_of_below hb_ none) (by cases Value.ownBlock _ <;> simp)); have hue := (hb_.cell (World.block_lt_of_cell? _ _ hucd)).trans hucd; have hve := (hb_.cell (World.block_lt_of_cell? _ _ hvcd)).trans hvcd; have hbl_ := below_alloc (Below.refl wE.heap.size wE) (.cells #[.int .i64 (vj + R2)] 2); have huf := (hbl_.cell (World.block_lt_of_cell? _ _ hue)).trans hue; have hvf := (hbl_.cell (World.block_lt_of_cell? _ _ hve)).trans hve; have HPF := Aside0.mk (HPE_.out.kept (grown_of_below hbl_ none) (by cases Value.ownBlock _ <;> simp)); clear hb_ hbl_) | (refine step_push (w0 := wc) (by rfl) (.tmp 182) (.tmp 195) (by rfl) u21 (Qn.take j) (vj + R2) (by rfl) (by rfl) HQE_.out HBE.out (below_size HBE.out) HTQL.out ?_; intro q1 wG g1 g2 g3 g4; have HBG := Aside0.mk g2; have hug : wG.cell? ⟨gu, j, none⟩ = some (.int .i64 uj) := (by rw [HUJ.out]; exact HUO.out wG _ (HDA.out.later HBG.out) j HJJ.out); have hvg : wG.cell? ⟨gv, j, none⟩ = some (.int .i64 vj) := (by rw [HVJ2.out]; exact HVO.out wG _ (HDA.out.later HBG.out) j (Nat.lt_of_lt_of_le HJJ.out HNN.out.2.1)); have HQG := Aside0.mk g1; have HPG := Aside0.mk (HPF.out.kept g3 HAC.out.symm.ne); have HAG := Aside0.mk (HAC.out.symm.grow HPE_.out (Nat.le_refl _) g4).symm; clear g1 g2 g3 g4))
                                rw [HTQ.out] at HQG
                                go_wp2
                                go_roundg gF
                                case measure => omega
                                case rel => exact ⟨j + 1, _, _, by first | rfl | (congr 1; push_cast; rfl), rfl, rfl, ⟨by have := HG3.out; omega⟩, HBG, HPG, HQG, HAG⟩

                              · have hj1n' : ¬ ((j : Int) + 1 < (n : Int)) := by omega
                                have hj1n : ¬ (((j + 1 : Nat) : Int) < (n : Int)) := by omega
                                have HBC := HBF
                                have HPC := Aside0.mk (show wr.ownsRow wc.heap.size 2 1 u20 (P.take (j + 1)).length (nums .i64 (P.take (j + 1))) from by rw [take_more (by have := HPL.out; omega)]; exact HPO.out)
                                have HQC := HQO
                                have HAC := HAP
                                clear hj1
                                go_wp2
                                have huc := HUO.out wr _ (HDA.out.later HBC.out) j HJJ.out
                                have hvc := HVO.out wr _ (HDA.out.later HBC.out) j (Nat.lt_of_lt_of_le HJJ.out HNN.out.2.1)
                                rw [← HUJ.out] at huc
                                rw [← HVJ2.out] at hvc
                                have hucd : wr.drew.cell? ⟨gu, j, none⟩ = some (.int .i64 uj) := huc
                                have hvcd : wr.drew.cell? ⟨gv, j, none⟩ = some (.int .i64 vj) := hvc
                                have HBCd := Aside0.mk (below_drew HBC.out)
                                have HPCd := Aside0.mk (HPC.out.kept (grown_of_below (below_drew (Below.refl wr.heap.size wr)) none) (by cases Value.ownBlock _ <;> simp))
                                have HQCd := Aside0.mk (HQC.out.kept (grown_of_below (below_drew (Below.refl wr.heap.size wr)) none) (by cases Value.ownBlock _ <;> simp))
                                have HTQ := Aside0.mk (show Qn.take j ++ [vj + R2] = Qn.take (j + 1) from by rw [← HVJ.out]; exact take_next (by have := HPL.out; have := HJJ.out; omega))
                                have HTQL := Aside0.mk (show (Qn.take j).length ≤ 1000 from by rw [List.length_take]; have := HPL.out; have := HNN.out; omega)
                                go_wp2
                                go_region_held3 (fun W => W.cell? ⟨gu, j, none⟩ = some (.int .i64 uj) ∧ W.cell? ⟨gv, j, none⟩ = some (.int .i64 vj)) (first | exact ⟨huc, hvc⟩ | exact ⟨hucd, hvcd⟩ | exact ⟨hue, hve⟩ | exact ⟨huf, hvf⟩ | exact ⟨hug, hvg⟩)
                                  (first | (go_at_call 55; refine (psalteryref01_Round.calls P2 15 R2 _ HR2.out).mono ?_; rintro e wE ⟨rfl, hb_⟩; have HBE := Aside0.mk (below_step HBCd.out hb_); have HPE_ := Aside0.mk (HPCd.out.kept (grown_of_below hb_ none) (by cases Value.ownBlock _ <;> simp)); have HQE_ := Aside0.mk (HQCd.out.kept (grown_of_below hb_ none) (by cases Value.ownBlock _ <;> simp)); have hue := (hb_.cell (World.block_lt_of_cell? _ _ hucd)).trans hucd; have hve := (hb_.cell (World.block_lt_of_cell? _ _ hvcd)).trans hvcd; have hbl_ := below_alloc (Below.refl wE.heap.size wE) (.cells #[.int .i64 (vj + R2)] 2); have huf := (hbl_.cell (World.block_lt_of_cell? _ _ hue)).trans hue; have hvf := (hbl_.cell (World.block_lt_of_cell? _ _ hve)).trans hve; have HPF := Aside0.mk (HPE_.out.kept (grown_of_below hbl_ none) (by cases Value.ownBlock _ <;> simp)); clear hb_ hbl_) | (refine step_push (w0 := wc) (by rfl) (.tmp 182) (.tmp 195) (by rfl) u21 (Qn.take j) (vj + R2) (by rfl) (by rfl) HQE_.out HBE.out (below_size HBE.out) HTQL.out ?_; intro q1 wG g1 g2 g3 g4; have HBG := Aside0.mk g2; have hug : wG.cell? ⟨gu, j, none⟩ = some (.int .i64 uj) := (by rw [HUJ.out]; exact HUO.out wG _ (HDA.out.later HBG.out) j HJJ.out); have hvg : wG.cell? ⟨gv, j, none⟩ = some (.int .i64 vj) := (by rw [HVJ2.out]; exact HVO.out wG _ (HDA.out.later HBG.out) j (Nat.lt_of_lt_of_le HJJ.out HNN.out.2.1)); have HQG := Aside0.mk g1; have HPG := Aside0.mk (HPF.out.kept g3 HAC.out.symm.ne); have HAG := Aside0.mk (HAC.out.symm.grow HPE_.out (Nat.le_refl _) g4).symm; clear g1 g2 g3 g4))
                                rw [HTQ.out] at HQG
                                go_wp2
                                go_roundg gF
                                case measure => omega
                                case rel => exact ⟨j + 1, _, _, by first | rfl | (congr 1; push_cast; rfl), rfl, rfl, ⟨by have := HG3.out; omega⟩, HBG, HPG, HQG, HAG⟩


                            · obtain rfl : j = n := by have := HG3.out; omega
                              have hjn : ¬ ((j : Int) < (j : Int)) := by omega
                              have HPZ := Aside0.mk (show wr.ownsRow w.heap.size 2 1 u20 P.length (nums .i64 P) from by have h1 := own_lower HPO.out (below_size HDA.out.be); rw [List.take_of_length_le (by have := HPL.out; omega)] at h1; exact h1)
                              have HQZ := Aside0.mk (show wr.ownsRow w.heap.size 2 1 u21 Qn.length (nums .i64 Qn) from by have h1 := own_lower HQO.out (below_size HDA.out.be); rw [List.take_of_length_le (by have := HPL.out; omega)] at h1; exact h1)
                              have HDZ := Aside0.mk ((HDA.out.later HBF.out).rows HPZ.out HQZ.out)
                              have hwm : IntKind.i64.wrap ((m : Int) + 1) = ((m + 1 : Nat) : Int) := by rw [i64_w]; unfold wrap64; have := HMM.out; omega
                              rw [HPE.out, HQE.out] at HDZ
                              clear hj
                              go_wp2
                              go_roundg gO
                              case measure => omega
                              case rel => exact ⟨m + 1, _, _, by first | rfl | (congr 1; push_cast; rfl), rfl, rfl, rfl, ⟨by have := HG.out; omega⟩, HDZ⟩


                · obtain rfl : m = 4 := by have := HG.out; omega
                  clear hm
                  have hvl : (vR R 4).length = 1 := by rw [vR_length HRL.out]; rfl
                  have HDZ := Aside0.mk (show RQ w br bf R (idxS R) (uR R 4) (vR R 4) u12 u13 wr from by
                    have h1 := HD.out
                    rw [show z4.drop 4 = [] from rfl, List.append_nil, List.take_of_length_le (by rw [idxS_length]; exact Nat.le_refl _)] at h1
                    exact h1)
                  obtain ⟨gv, cv, ev⟩ := own_known HD.out.v (by rw [hvl]; decide)
                  subst ev
                  have hv0 := own_at2 HD.out.v rfl (j := 0) (by rw [hvl]; decide)
                  have hr0 := nums_at HDZ.out.r (i := 0) (by rw [HRL.out]; decide)
                  have hb := vR_in R HRL.out HRI.out (Nat.le_refl 4) 0
                  have hbr := HRI.out 0
                  have HNB := Aside0.mk (show noneB R = (decide (R.getD 0 0 ≤ 0) || decide (2 * R.getD 0 0 < 3 * (uvS R 4).2.getD 0 0) || decide (idxS R = [8, 8, 8, 8])) from rfl)
                  have HFO := Aside0.mk (show findOn R = if noneB R then 0 else 1 from rfl)
                  have HFI := Aside0.mk (show findIdx R = if noneB R then z4 else idxS R from rfl)
                  rw [← vR_last, ← eights_all] at HNB
                  clear HD
                  rw [hvl]
                  generalize (vR R 4).length = vl at hvl HDZ
                  generalize R.getD 0 0 = r0 at hr0 hbr HNB
                  generalize (vR R 4).getD 0 0 = v0 at hv0 hb HNB
                  generalize eightsB R 4 = e8 at HNB ⊢
                  obtain ⟨i0, i1, i2, i3, hI⟩ := four (idxS_length R)
                  have x0 := (blk_cell HDZ.out.f 0).trans (rfl : _ = some (Value.int .i64 1))
                  have x1 := (blk_cell HDZ.out.f 1).trans (show _ = some (Value.int .i64 i0) from by rw [hI]; rfl)
                  have x2 := (blk_cell HDZ.out.f 2).trans (show _ = some (Value.int .i64 i1) from by rw [hI]; rfl)
                  have x3 := (blk_cell HDZ.out.f 3).trans (show _ = some (Value.int .i64 i2) from by rw [hI]; rfl)
                  have x4 := (blk_cell HDZ.out.f 4).trans (show _ = some (Value.int .i64 i3) from by rw [hI]; rfl)
                  have HII := Aside0.mk hI
                  rw [hI] at HFI
                  have hw2 : IntKind.i64.wrap (2 * r0) = 2 * r0 := by rw [i64_w]; unfold wrap64; omega
                  have hw3 : IntKind.i64.wrap (3 * v0) = 3 * v0 := by rw [i64_w]; unfold wrap64; omega
                  have y0 : wr.drew.cell? ⟨bf, 0, none⟩ = some (.int .i64 1) := x0
                  have y1 : wr.drew.cell? ⟨bf, 1, none⟩ = some (.int .i64 i0) := x1
                  have y2 : wr.drew.cell? ⟨bf, 2, none⟩ = some (.int .i64 i1) := x2
                  have y3 : wr.drew.cell? ⟨bf, 3, none⟩ = some (.int .i64 i2) := x3
                  have y4 : wr.drew.cell? ⟨bf, 4, none⟩ = some (.int .i64 i3) := x4
                  have yr : wr.drew.cell? ⟨br, 0, none⟩ = some (.int .i64 r0) := hr0
                  have yv : wr.drew.cell? ⟨gv, 0, none⟩ = some (.int .i64 v0) := hv0
                  clear hb hbr hI hvl HG
                  have hcase : (noneB R = true ∧ ((r0 ≤ 0) ∨ (¬ r0 ≤ 0 ∧ 2 * r0 < 3 * v0) ∨ (¬ r0 ≤ 0 ∧ ¬ 2 * r0 < 3 * v0 ∧ e8 = true))) ∨ (noneB R = false ∧ ¬ r0 ≤ 0 ∧ ¬ 2 * r0 < 3 * v0 ∧ e8 = false) := by
                    rw [HNB.out]
                    by_cases a : r0 ≤ 0
                    · exact .inl ⟨by simp [a], .inl a⟩
                    · by_cases b : 2 * r0 < 3 * v0
                      · exact .inl ⟨by simp [b], .inr (.inl ⟨a, b⟩)⟩
                      · cases e8
                        · exact .inr ⟨by simp [a, b], a, b, rfl⟩
                        · exact .inl ⟨by simp, .inr (.inr ⟨a, b, rfl⟩)⟩
                  rcases hcase with ⟨hnb, hcs⟩ | ⟨hnb, hc1, hc2, rfl⟩
                  · have HON := Aside0.mk (show findOn R = 0 from by rw [HFO.out, if_pos hnb])
                    have HIX := Aside0.mk (show findIdx R = z4 from by rw [HFI.out, if_pos hnb])
                    clear hnb
                    rcases hcs with hc1 | ⟨hc1, hc2⟩ | ⟨hc1, hc2, rfl⟩
                    all_goals
                      go_wp2
                      go_quiet (fail)
                      have HDq := Aside0.mk (HDZ.out.later (pw_below_drewN (Below.refl wr.heap.size wr) nq))
                      clear x0 x1 x2 x3 x4 y0 y1 y2 y3 y4 yr yv hr0 hv0
                      generalize wr.drewN nq = wq at HDq ⊢
                      have x0 := (blk_cell HDq.out.f 0).trans (rfl : _ = some (Value.int .i64 1))
                      have x1 := (blk_cell HDq.out.f 1).trans (show _ = some (Value.int .i64 i0) from by rw [HII.out]; rfl)
                      have x2 := (blk_cell HDq.out.f 2).trans (show _ = some (Value.int .i64 i1) from by rw [HII.out]; rfl)
                      have x3 := (blk_cell HDq.out.f 3).trans (show _ = some (Value.int .i64 i2) from by rw [HII.out]; rfl)
                      have x4 := (blk_cell HDq.out.f 4).trans (show _ = some (Value.int .i64 i3) from by rw [HII.out]; rfl)
                      go_wp2_with (first | (refine wpList_store_row rfl 63 _ _ rfl w.heap.size #[.int .i64 0, .int .i64 0, .int .i64 0, .int .i64 0, .int .i64 0] rfl rfl 63 #[.int .i64 0, .int .i64 0, .int .i64 0, .int .i64 0, .int .i64 0] HDq.out.z (by kernel_rfl) (by kernel_rfl) (by kernel_rfl) ?_))
                      have hz := setRow_heap wq w.heap.size #[.int .i64 0, .int .i64 0, .int .i64 0, .int .i64 0, .int .i64 0] #[.int .i64 0, .int .i64 0, .int .i64 0, .int .i64 0, .int .i64 0] 63 (0, 0) HDq.out.z
                      have HBZ := Aside0.mk (below_setRow HDq.out.be (Nat.le_refl _) #[.int .i64 0, .int .i64 0, .int .i64 0, .int .i64 0, .int .i64 0])
                      generalize wq.setRow w.heap.size #[.int .i64 0, .int .i64 0, .int .i64 0, .int .i64 0, .int .i64 0] = wz at hz HBZ ⊢
                      have z0 := (blk_cell hz 0).trans rfl; have z1 := (blk_cell hz 1).trans rfl; have z2 := (blk_cell hz 2).trans rfl; have z3 := (blk_cell hz 3).trans rfl; have z4_ := (blk_cell hz 4).trans rfl
                      exact bodyPost_ret (v := .agg #[.int .i64 0, .int .i64 0, .int .i64 0, .int .i64 0, .int .i64 0]) (by simp [results, Try.results31, go_sem, z0, z1, z2, z3, z4_]) rfl ⟨by rw [← HRE.out, HON.out, HIX.out]; rfl, HBZ.out⟩
                  · have HON := Aside0.mk (show findOn R = 1 from by rw [HFO.out, if_neg (by rw [hnb]; decide)])
                    have HIX := Aside0.mk (show findIdx R = [i0, i1, i2, i3] from by rw [HFI.out, if_neg (by rw [hnb]; decide)])
                    clear hnb
                    go_wp2
                    go_quiet (fail)
                    have HDq := Aside0.mk (HDZ.out.later (pw_below_drewN (Below.refl wr.heap.size wr) nq))
                    clear x0 x1 x2 x3 x4 y0 y1 y2 y3 y4 yr yv hr0 hv0
                    generalize wr.drewN nq = wq at HDq ⊢
                    have x0 := (blk_cell HDq.out.f 0).trans (rfl : _ = some (Value.int .i64 1))
                    have x1 := (blk_cell HDq.out.f 1).trans (show _ = some (Value.int .i64 i0) from by rw [HII.out]; rfl)
                    have x2 := (blk_cell HDq.out.f 2).trans (show _ = some (Value.int .i64 i1) from by rw [HII.out]; rfl)
                    have x3 := (blk_cell HDq.out.f 3).trans (show _ = some (Value.int .i64 i2) from by rw [HII.out]; rfl)
                    have x4 := (blk_cell HDq.out.f 4).trans (show _ = some (Value.int .i64 i3) from by rw [HII.out]; rfl)
                    go_wp2_with (first | (refine wpList_store_row rfl 63 _ _ rfl w.heap.size #[.int .i64 1, .int .i64 i0, .int .i64 i1, .int .i64 i2, .int .i64 i3] rfl rfl 63 #[.int .i64 0, .int .i64 0, .int .i64 0, .int .i64 0, .int .i64 0] HDq.out.z (by kernel_rfl) (by kernel_rfl) (by kernel_rfl) ?_))
                    have hz := setRow_heap wq w.heap.size #[.int .i64 0, .int .i64 0, .int .i64 0, .int .i64 0, .int .i64 0] #[.int .i64 1, .int .i64 i0, .int .i64 i1, .int .i64 i2, .int .i64 i3] 63 (0, 0) HDq.out.z
                    have HBZ := Aside0.mk (below_setRow HDq.out.be (Nat.le_refl _) #[.int .i64 1, .int .i64 i0, .int .i64 i1, .int .i64 i2, .int .i64 i3])
                    generalize wq.setRow w.heap.size #[.int .i64 1, .int .i64 i0, .int .i64 i1, .int .i64 i2, .int .i64 i3] = wz at hz HBZ ⊢
                    have z0 := (blk_cell hz 0).trans rfl; have z1 := (blk_cell hz 1).trans rfl; have z2 := (blk_cell hz 2).trans rfl; have z3 := (blk_cell hz 3).trans rfl; have z4_ := (blk_cell hz 4).trans rfl
                    exact bodyPost_ret (v := .agg #[.int .i64 1, .int .i64 i0, .int .i64 i1, .int .i64 i2, .int .i64 i3]) (by simp [results, Try.results31, go_sem, z0, z1, z2, z3, z4_]) rfl ⟨by rw [← HRE.out, HON.out, HIX.out]; rfl, HBZ.out⟩
end Go.Proofs.Ytblehkoonajofaa.PTns
