/- Quant: pairs of two planes, walked. -/
import Derived.Test.YtnaeondfkkiimaaPPairsx1
import Derived.Test.YtnaeondfkkiimaaPPairsx2
import Derived.Test.YtnaeondfkkiimaaPPairsx4a
import Derived.Test.YtnaeondfkkiimaaRowAt
import Derived.StillTailTactics
import Derived.Deep.RegionHeld3
import Derived.Deep.AppendLies
import Derived.Deep.DeepCutAuto
import Derived.Deep.CutBlock
import Derived.Deep.DrawnRows
import Derived.Deep.RegionLaw
namespace Go.Proofs.Ytnaeondfkkiimaa.PPairs
open Go.RowKit Go.Proofs.YtnaeondfkkiimaaW.PrintWords Go.Proofs.YtnaeondfkkiimaaW.PrintLast Go.Proofs.YtnaeondfkkiimaaW.PrintMore Go.Proofs.Ytnaeondfkkiimaa.RowAt
attribute [local go_sem ↓] Go.wp_at_zero Go.wp_at_succ
attribute [local go_sem] max2_int min2_int max_two min_two max_three min_three max_four min_four   -- for this text's walks alone
set_option linter.unusedVariables false
set_option linter.unusedSimpArgs false
/-- Which bands are better joined: of the four planes' scales. The last band never. -/
def joinsB (sc : Nat → List Int) : List Bool := (List.range (sc 0).length).map fun b => decide (b + 1 < (sc 0).length) && decide (wrap64 ((sc 2).getD b 0 + (sc 3).getD b 0) < wrap64 ((sc 0).getD b 0 + (sc 1).getD b 0))
theorem joinsB_length (sc : Nat → List Int) : (joinsB sc).length = (sc 0).length := by simp [joinsB]
/-- What is laid behind k bands. -/
def stB (F : List Bool) (k : Nat) : List Bool := (List.range F.length).map fun j => decide (j < k) && F.getD j false
theorem stB_length (F : List Bool) (k : Nat) : (stB F k).length = F.length := by simp [stB]
theorem stB_start (F : List Bool) : stB F 0 = List.replicate F.length false := by
  apply List.ext_getElem (by simp [stB]); intro j h1 h2; simp [stB]
theorem stB_next (F : List Bool) {k : Nat} {x : Bool} (hk : k < F.length) (hx : x = F.getD k false) : (stB F k).set k x = stB F (k + 1) := by
  apply List.ext_getElem (by simp [stB])
  intro j h1 h2
  rw [List.getElem_set]
  by_cases e : k = j
  · subst e; rw [if_pos rfl, hx]; simp [stB]
  · rw [if_neg e]
    have : (j < k) ↔ (j < k + 1) := by omega
    simp [stB, this]
theorem stB_end (F : List Bool) {k : Nat} (hk : k + 1 = F.length) (hl : F.getD k false = false) : stB F k = F := by
  apply List.ext_getElem (by simp [stB])
  intro j h1 h2
  simp only [stB, List.getElem_map, List.getElem_range]
  by_cases c : j < k
  · simp [c, List.getD_eq_getElem?_getD, List.getElem?_eq_getElem h2]
  · have : j = k := by omega
    subst this
    rw [List.getD_eq_getElem?_getD, List.getElem?_eq_getElem h2] at hl
    simp at hl
    simp [hl]
theorem joinsB_at (sc : Nat → List Int) {k : Nat} (hk : k + 1 < (sc 0).length) : (joinsB sc).getD k false = decide (wrap64 ((sc 2).getD k 0 + (sc 3).getD k 0) < wrap64 ((sc 0).getD k 0 + (sc 1).getD k 0)) := by
  rw [joinsB, List.getD_eq_getElem?_getD, List.getElem?_map, List.getElem?_range (by omega)]
  simp [hk]
theorem joinsB_last (sc : Nat → List Int) {k : Nat} (hk : k + 1 = (sc 0).length) : (joinsB sc).getD k false = false := by
  rw [joinsB, List.getD_eq_getElem?_getD, List.getElem?_map, List.getElem?_range (by omega)]
  simp [hk]
/-- A row of scales that lies in a block of its own, other than X. -/
def RS (w : World) (X : Nat) (v : Value) (xs : List Int) : Prop := ∃ g c, v = .slice (some ⟨g, 0, none⟩) xs.length c ∧ xs.length ≤ c ∧ g ≠ X ∧ ∀ j, j < xs.length → w.cell? ⟨g, j, none⟩ = some (.int .i64 (xs.getD j 0))
theorem RS_of {w : World} {base X : Nat} {ok : Nat → Prop} {v : Value} {xs : List Int} (h : Kd.R (Kd.int .i64) 3 w base ok v xs) (hp : 0 < xs.length) (hX : X < base) : RS w X v xs := by
  obtain ⟨g, c, e, hb, _, _⟩ := Kd.R_form h hp
  obtain ⟨A, c', e', hl, hc⟩ := Kd.R_reads h
  subst e
  cases e'
  obtain ⟨ad, ea, hcell⟩ := (reads_int hc).2.2 hp
  cases ea
  refine ⟨g, c, rfl, hl, by omega, fun j hj => ?_⟩
  have := hcell j hj
  rwa [show (Addr.mk g 0 none).add j = ⟨g, j, none⟩ from by simp [Addr.add]; exact fun e => e.symm] at this
theorem RS.below {w w1 : World} {X : Nat} {v : Value} {xs : List Int} (h : RS w X v xs) (hb : Below w.heap.size w w1) : RS w1 X v xs := by
  obtain ⟨g, c, e, hl, hx, hc⟩ := h
  exact ⟨g, c, e, hl, hx, fun j hj => (hb.cell (World.block_lt_of_cell? _ _ (hc j hj))).trans (hc j hj)⟩
theorem RS.put {w : World} {X : Nat} {v : Value} {xs : List Int} (h : RS w X v xs) (i : Nat) (u : Value) : RS (w.setCell ⟨X, i, none⟩ u) X v xs := by
  obtain ⟨g, c, e, hl, hx, hc⟩ := h
  refine ⟨g, c, e, hl, hx, fun j hj => ?_⟩
  have h1 := hc j hj
  have h2 := Below.heap_setCell w ⟨X, i, none⟩ u g hx
  unfold World.cell? at h1 ⊢
  dsimp only at h1 ⊢
  rw [h2]; exact h1
/-- Four rows of scales that are being laid into the array X. -/
structure JS (w : World) (X : Nat) (val : Nat → Value) (sc : Nat → List Int) (i : Nat) (wx : World) : Prop where
  xa : wx.heap[X]? = some (.cells ((List.range 4).map val).toArray 96 (0, 0))
  xb : w.heap.size ≤ X
  rs : ∀ j, j < i → RS wx X (val j) (sc j)
  be : Below w.heap.size w wx
namespace JS
variable {w wx wy : World} {X i : Nat} {val : Nat → Value} {sc : Nat → List Int}
theorem later (h : JS w X val sc i wx) (hb : Below wx.heap.size wx wy) : JS w X val sc i wy := ⟨(hb.block _ (blk_lt h.xa)).trans h.xa, h.xb, fun j hj => (h.rs j hj).below hb, below_step h.be hb⟩
theorem cell (h : JS w X val sc i wx) {j : Nat} (hj : j < 4) : wx.cell? ⟨X, j, none⟩ = some (val j) := by
  rw [blk_cell h.xa]; simp [hj]
theorem put (h : JS w X val sc i wx) {u : Value} (hu : RS wx X u (sc i)) : JS w X (upd val i u) sc (i + 1) (wx.setCell ⟨X, i, none⟩ u) := by
  refine ⟨?_, h.xb, fun j hj => ?_, h.be.setCell h.xb _⟩
  · have h1 := blk_set h.xa i u
    rw [h1]; simp only [List.setIfInBounds_toArray, upd_set]
  · by_cases e : j = i
    · subst e; rw [upd_same]; exact hu.put j u
    · rw [upd_ne _ _ e]; exact (h.rs j (by omega)).put i u
end JS
def scK : Nat := 100000
def joinsOK (sc : Nat → List Int) : Bool := decide (0 < (sc 0).length) && decide ((sc 0).length ≤ 1000) && (List.range 4).all fun j => decide ((sc j).length = (sc 0).length)
theorem joinsOK_of {sc : Nat → List Int} (h : joinsOK sc = true) : 0 < (sc 0).length ∧ (sc 0).length ≤ 1000 ∧ ∀ j, j < 4 → (sc j).length = (sc 0).length := by
  unfold joinsOK at h
  rw [Bool.and_eq_true, Bool.and_eq_true, decide_eq_true_eq, decide_eq_true_eq, List.all_eq_true] at h
  exact ⟨h.1.1, h.1.2, fun j hj => of_decide_eq_true (h.2 j (List.mem_range.2 hj))⟩
def four {α : Type} (a b c d : α) : Nat → α := fun j => match j with | 0 => a | 1 => b | 2 => c | _ => d
def quant_Joins.f (l0 : List (List Int)) (l1 : List (List Int)) : Option ((List Bool) × Int) :=
  (quant_Middle.f l0 l1).bind fun p => if p.2.2 ≠ 0 then some ([], p.2.2) else (quant_Scales.f scK l0).bind fun a => (quant_Scales.f scK l1).bind fun b => (quant_Scales.f scK p.1).bind fun c => (quant_Scales.f scK p.2.1).bind fun d => if joinsOK (four a.1 b.1 c.1 d.1) = true then some (joinsB (four a.1 b.1 c.1 d.1), 0) else none
theorem index_four (A0 A1 A2 A3 : Option Addr) (n0 n1 n2 n3 c0 c1 c2 c3 : Nat) (W : World) (q : Nat) (hq : q < 4) :
    (Instr.index 97 (.agg #[.slice A0 n0 c0, .slice A1 n1 c1, .slice A2 n2 c2, .slice A3 n3 c3]) (.int .i64 (q : Int))).run Try.prog W = .ok (four (Value.slice A0 n0 c0) (.slice A1 n1 c1) (.slice A2 n2 c2) (.slice A3 n3 c3) q) W := by
  have h0 : (Instr.index 97 (.agg #[.slice A0 n0 c0, .slice A1 n1 c1, .slice A2 n2 c2, .slice A3 n3 c3]) (.int .i64 0)).run Try.prog W = .ok (.slice A0 n0 c0) W := by kernel_rfl
  have h1 : (Instr.index 97 (.agg #[.slice A0 n0 c0, .slice A1 n1 c1, .slice A2 n2 c2, .slice A3 n3 c3]) (.int .i64 1)).run Try.prog W = .ok (.slice A1 n1 c1) W := by kernel_rfl
  have h2 : (Instr.index 97 (.agg #[.slice A0 n0 c0, .slice A1 n1 c1, .slice A2 n2 c2, .slice A3 n3 c3]) (.int .i64 2)).run Try.prog W = .ok (.slice A2 n2 c2) W := by kernel_rfl
  have h3 : (Instr.index 97 (.agg #[.slice A0 n0 c0, .slice A1 n1 c1, .slice A2 n2 c2, .slice A3 n3 c3]) (.int .i64 3)).run Try.prog W = .ok (.slice A3 n3 c3) W := by kernel_rfl
  have hc : q = 0 ∨ q = 1 ∨ q = 2 ∨ q = 3 := by omega
  rcases hc with rfl | rfl | rfl | rfl
  · exact h0
  · exact h1
  · exact h2
  · exact h3
theorem info_4 : (Try.prog.info? 4).map (fun i => (i.zero, i.size, i.bytes)) = some (some (.bool false), 1, 1) := by kernel_rfl
theorem joins_bad (A0 : Option Addr) (c0 : Nat) (l0 : List (List Int)) (A1 : Option Addr) (c1 : Nat) (l1 : List (List Int)) (w : World) (hr0 : Kd.C (Kd.slice 21 (Kd.int .i32)) w A0 l0.length l0) (hc0 : l0.length ≤ c0) (hr1 : Kd.C (Kd.slice 21 (Kd.int .i32)) w A1 l1.length l1) (hc1 : l1.length ≤ c1)
    (m s : List (List Int)) (e : Int) (he : e ≠ 0) (hM : quant_Middle.f l0 l1 = some (m, s, e)) :
    Calls Try.prog 53 #[.slice A0 l0.length c0, .slice A1 l1.length c1] w fun en w' => en = .returned (.tuple #[.slice none 0 0, .int .i64 e]) ∧ Below w.heap.size w w' := by
  have HM := Aside0.mk (quant_Middle.calls A0 c0 l0 A1 c1 l1 m s e w hr0 hc0 hr1 hc1 hM)
  clear hr0 hc0 hr1 hc1 hM
  go_enter Try.func53, Try.ntmps53
  go_wp2_with (first | (go_at_call 46; refine HM.out.mono ?_; rintro e_ w1 ⟨v0_, v1_, rfl, _, _, hb_⟩; have HB := Aside0.mk hb_; clear hb_))
  exact bodyPost_ret (v := .tuple #[.slice none 0 0, .int .i64 e]) (by simp [results, Try.results53, go_sem]) rfl ⟨rfl, HB.out⟩
def PlaneAt (w : World) (v : Value) (l : List (List Int)) : Prop := ∃ A c, v = .slice A l.length c ∧ l.length ≤ c ∧ Kd.C (Kd.slice 21 (Kd.int .i32)) w A l.length l
theorem PlaneAt.below {w w1 : World} {v : Value} {l : List (List Int)} (h : PlaneAt w v l) (hb : Below w.heap.size w w1) : PlaneAt w1 v l := by
  obtain ⟨A, c, e, hl, hc⟩ := h
  exact ⟨A, c, e, hl, Kd.C_below hc hb⟩
structure YS (w : World) (Y : Nat) (F : List Bool) (k : Nat) (wx : World) : Prop where
  ya : wx.heap[Y]? = some (.cells (bools (stB F k)).toArray 4 (0, 0))
  yb : w.heap.size ≤ Y
  be : Below w.heap.size w wx
theorem bools_rep (n : Nat) : (bools (List.replicate n false)).toArray = ((List.range n).map fun _ => Value.bool false).toArray := by
  congr 1
  apply List.ext_getElem (by simp [bools]); intro j h1 h2; simp [bools]
theorem YS.put {w wx : World} {Y k : Nat} {F : List Bool} {x : Bool} (h : YS w Y F k wx) (hk : k < F.length) (hx : x = F.getD k false) : YS w Y F (k + 1) (wx.setCell ⟨Y, k, none⟩ (.bool x)) := by
  refine ⟨?_, h.yb, h.be.setCell h.yb _⟩
  have h1 := blk_set h.ya k (.bool x)
  rw [h1, ← stB_next F hk hx]
  simp [bools]
set_option maxHeartbeats 8000000 in
set_option maxRecDepth 100000 in
theorem joins_ok (A0 : Option Addr) (c0 : Nat) (l0 : List (List Int)) (A1 : Option Addr) (c1 : Nat) (l1 : List (List Int)) (w : World) (hr0 : Kd.C (Kd.slice 21 (Kd.int .i32)) w A0 l0.length l0) (hc0 : l0.length ≤ c0) (hr1 : Kd.C (Kd.slice 21 (Kd.int .i32)) w A1 l1.length l1) (hc1 : l1.length ≤ c1)
    (m s : List (List Int)) (hM : quant_Middle.f l0 l1 = some (m, s, 0)) (sc : Nat → List Int) (es : Nat → Int) (hS : ∀ j, j < 4 → quant_Scales.f scK (four l0 l1 m s j) = some (sc j, es j)) (hok : joinsOK sc = true) :
    Calls Try.prog 53 #[.slice A0 l0.length c0, .slice A1 l1.length c1] w fun en w' => ∃ v0_, en = .returned (.tuple #[v0_, .int .i64 0]) ∧ Kd.R Kd.bool 4 w' w.heap.size (fun _ => True) v0_ (joinsB sc) ∧ Below w.heap.size w w' := by
  have HM := Aside0.mk (quant_Middle.calls A0 c0 l0 A1 c1 l1 m s 0 w hr0 hc0 hr1 hc1 hM)
  have HS := Aside0.mk hS
  have HOK := Aside0.mk (joinsOK_of hok)
  have HR0 := Aside0.mk (show PlaneAt w (.slice A0 l0.length c0) l0 from ⟨A0, c0, rfl, hc0, hr0⟩)
  have HR1 := Aside0.mk (show PlaneAt w (.slice A1 l1.length c1) l1 from ⟨A1, c1, rfl, hc1, hr1⟩)
  clear hr0 hc0 hr1 hc1 hM hS hok
  go_enter Try.func53, Try.ntmps53
  go_wp2_with (first | (go_at_call 46; refine HM.out.mono ?_; rintro e_ w1 ⟨v0_, v1_, rfl, hm_, hs_, hb_⟩; have HB := Aside0.mk hb_; obtain ⟨A2, c2, rfl, hl2, hcm⟩ := Kd.S_reads hm_; obtain ⟨A3, c3, rfl, hl3, hcs⟩ := Kd.S_reads hs_; have HR2 := Aside0.mk (show PlaneAt w1 (.slice A2 m.length c2) m from ⟨A2, c2, rfl, hl2, hcm⟩); have HR3 := Aside0.mk (show PlaneAt w1 (.slice A3 s.length c3) s from ⟨A3, c3, rfl, hl3, hcs⟩); have HR0 := Aside0.mk (HR0.out.below HB.out); have HR1 := Aside0.mk (HR1.out.below HB.out); clear hb_ hm_ hs_ hl2 hl3 hcm hcs))
  obtain ⟨W1, hW1⟩ : ∃ W1, W1 = w1.alloc (.cells #[.slice none 0 0, .slice none 0 0, .slice none 0 0, .slice none 0 0] 96) := ⟨_, rfl⟩
  obtain ⟨X, hX⟩ : ∃ X, X = w1.heap.size := ⟨_, rfl⟩
  have HJ0 := Aside0.mk (show JS w1 X (fun _ => .slice none 0 0) sc 0 W1 from by rw [hW1, hX]; exact ⟨blk_new w1 _, Nat.le_refl _, fun j hj => absurd hj (Nat.not_lt_zero j), below_alloc (Below.refl w1.heap.size w1) _⟩)
  simp only [← hW1, ← hX]
  clear hX hW1
  have HPL := Aside0.mk (show ∀ j, j < 4 → PlaneAt w1 (four (Value.slice A0 l0.length c0) (.slice A1 l1.length c1) (.slice A2 m.length c2) (.slice A3 s.length c3) j) (four l0 l1 m s j) from fun j hj => by
    have hc : j = 0 ∨ j = 1 ∨ j = 2 ∨ j = 3 := by omega
    rcases hc with rfl | rfl | rfl | rfl
    · exact HR0.out
    · exact HR1.out
    · exact HR2.out
    · exact HR3.out)
  have HIX := Aside0.mk (fun (q : Nat) (hq : q < 4) (W : World) => index_four A0 A1 A2 A3 l0.length l1.length m.length s.length c0 c1 c2 c3 W q hq)
  generalize hV0 : Value.slice A0 l0.length c0 = V0 at HPL HIX
  generalize hV1 : Value.slice A1 l1.length c1 = V1 at HPL HIX
  generalize hV2 : Value.slice A2 m.length c2 = V2 at HPL HIX
  generalize hV3 : Value.slice A3 s.length c3 = V3 at HPL HIX
  clear HR0 HR1 HR2 HR3 HM
  go_loopg [10, 11, 29, 30, 31, 32, 33, 34, 35, 36, 37, 38, 39, 40] 4 (fun kq v10 v11 v29 v30 v31 v32 v33 v34 v35 v36 v37 v38 v39 v40 wx => ∃ q : Nat, v29 = .int .i64 (q : Int) ∧ Aside0 (kq + q = 4) ∧ ∃ val, Aside0 (JS w1 X val sc q wx))
  case atStart => exact ⟨0, rfl, ⟨rfl⟩, _, HJ0⟩
  case round =>
    clear HJ0
    obtain ⟨q, rfl, HG, val, HJ⟩ := hrel
    by_cases hq : q < 4
    · have hq0 : (0 : Int) ≤ q := by omega
      have hq4 : (q : Int) < 4 := by omega
      obtain ⟨g0, rfl⟩ : ∃ g0, gk = g0 + 1 := ⟨gk - 1, by have := HG.out; omega⟩
      obtain ⟨Aq, cq, hvq, hlq, hcq⟩ := HPL.out q hq
      have hix := HIX.out q hq
      rw [hvq] at hix
      have hsc := HS.out q hq
      generalize (four l0 l1 m s q) = pl at hix hlq hcq hsc hvq
      generalize es q = eq_ at hsc
      have HQ := Aside0.mk hq
      have HCQ := Aside0.mk hcq
      have HLQ := Aside0.mk hlq
      have HSQ := Aside0.mk hsc
      have hp : 0 < (sc q).length := by rw [HOK.out.2.2 q hq]; exact HOK.out.1
      have HPQ := Aside0.mk hp
      have hwq : IntKind.i64.wrap ((q : Int) + 1) = ((q + 1 : Nat) : Int) := by rw [i64_w]; unfold wrap64; omega
      have hfx := blk_frozen HJ.out.xa q
      have hcx := HJ.out.cell hq
      clear hq hvq hlq hcq hsc hp
      go_wp2_with (first | (go_at_call 43; refine (quant_Scales.calls scK Aq cq pl (sc q) eq_ _ (Kd.C_below HCQ.out HJ.out.be) HLQ.out HSQ.out).mono ?_; rintro e_ w3 ⟨v5, rfl, hv, hb_⟩; have HJ3 := Aside0.mk (HJ.out.later hb_); have HR5 := Aside0.mk (RS_of (X := X) hv HPQ.out (blk_lt HJ.out.xa)); obtain ⟨A5, c5, rfl⟩ := Kd.R_slice hv; have hcx3 := HJ3.out.cell HQ.out; have hfx3 := blk_frozen HJ3.out.xa q; clear hv hb_ hcx hfx))
      go_roundg g0
      case measure => omega
      case rel => exact ⟨q + 1, by first | rfl | (congr 1; push_cast; rfl), ⟨by have := HG.out; omega⟩, _, ⟨HJ3.out.put HR5.out⟩⟩
    · obtain rfl : q = 4 := by have := HG.out; omega
      have hq4 : ¬ ((4 : Int) < 4) := by omega
      have h4 : ∀ j, j < 4 → ∃ g c, val j = .slice (some ⟨g, 0, none⟩) (sc 0).length c ∧ (sc 0).length ≤ c ∧ g < wr.heap.size ∧ g ≠ X ∧ ∀ k, k < (sc 0).length → wr.cell? ⟨g, k, none⟩ = some (.int .i64 ((sc j).getD k 0)) := fun j hj => by
        obtain ⟨g, c, e1, e2, e3, e4⟩ := HJ.out.rs j hj
        rw [HOK.out.2.2 j hj] at e1 e2 e4
        exact ⟨g, c, e1, e2, World.block_lt_of_cell? _ _ (e4 0 HOK.out.1), e3, e4⟩
      obtain ⟨ga, ca, ea, la, ba, na, cella⟩ := h4 0 (by decide)
      obtain ⟨gb, cb, eb, lb, bb, nb, cellb⟩ := h4 1 (by decide)
      obtain ⟨gc, cc, ec, lc, bc, nc, cellc⟩ := h4 2 (by decide)
      obtain ⟨gd, cd, ed, ld, bd, nd, celld⟩ := h4 3 (by decide)
      have x0 := HJ.out.cell (j := 0) (by decide)
      have x1 := HJ.out.cell (j := 1) (by decide)
      have x2 := HJ.out.cell (j := 2) (by decide)
      have x3 := HJ.out.cell (j := 3) (by decide)
      rw [ea] at x0; rw [eb] at x1; rw [ec] at x2; rw [ed] at x3
      obtain ⟨n, hn⟩ : ∃ n, n = (sc 0).length := ⟨_, rfl⟩
      have HN := Aside0.mk hn
      have hn1 : 0 < n := by rw [hn]; exact HOK.out.1
      have hn2 : n ≤ 1000 := by rw [hn]; exact HOK.out.2.1
      rw [← hn] at x0 x1 x2 x3 la lb lc ld cella cellb cellc celld
      have hmk : ∀ W : World, (Instr.makeSlice 75 (.int .i64 (n : Int)) (.int .i64 (n : Int))).run Try.prog W = .ok (.slice (some ⟨W.heap.size, 0, none⟩) n n) (W.alloc (.cells (madeCells #[.bool false] n) 4)) := print_make_of 75 4 (.bool false) 1 Try.underlying75 info_4 rfl (by decide) n (by omega)
      have hwn : IntKind.i64.wrap ((n : Int) - 1) = ((n - 1 : Nat) : Int) := by rw [i64_w]; unfold wrap64; omega
      have HCA := Aside0.mk cella
      have HCB := Aside0.mk cellb
      have HCC := Aside0.mk cellc
      have HCD := Aside0.mk celld
      have hn3 : (1 : Int) ≤ n := by omega
      have hn4 : (0 : Int) ≤ ((n - 1 : Nat) : Int) := by omega
      have hn5 : ((n - 1 : Nat) : Int) ≤ (n : Int) := by omega
      clear hn ea eb ec ed h4 cella cellb cellc celld
      go_wp2
      have HJE := HJ
      have HY0 := Aside0.mk (show YS wr wr.heap.size (joinsB sc) 0 (wr.alloc (.cells (madeCells #[.bool false] n) 4)) from ⟨by rw [stB_start, joinsB_length, ← HN.out, made_map, bools_rep]; exact blk_new wr _, Nat.le_refl _, below_alloc (Below.refl _ _) _⟩)
      obtain ⟨W2, hW2⟩ : ∃ W2, W2 = wr := ⟨_, rfl⟩
      obtain ⟨W3, hW3⟩ : ∃ W3, W3 = W2.alloc (.cells (madeCells #[.bool false] n) 4) := ⟨_, rfl⟩
      simp only [← hW2] at *
      simp only [← hW3] at *
      obtain ⟨Y, hY⟩ : ∃ Y, Y = W2.heap.size := ⟨_, rfl⟩
      have ba := Aside0.mk ba; have bb := Aside0.mk bb; have bc := Aside0.mk bc; have bd := Aside0.mk bd
      rw [← hY] at HY0
      simp only [← hY]
      clear hmk hW3 hW2 hY
      go_loopg [13, 51, 52, 53, 54, 55, 56, 57, 58, 59, 60, 61, 62, 63, 64, 65, 66, 67, 68, 69, 70, 71, 72, 73, 74, 75, 76, 77, 78, 79, 80] (n - 1) (fun kq v13 v51 v52 v53 v54 v55 v56 v57 v58 v59 v60 v61 v62 v63 v64 v65 v66 v67 v68 v69 v70 v71 v72 v73 v74 v75 v76 v77 v78 v79 v80 wx => ∃ k : Nat, v51 = .int .i64 (k : Int) ∧ Aside0 (kq + k = n - 1) ∧ Aside0 (YS W2 Y (joinsB sc) k wx))
      case atStart => exact ⟨0, rfl, ⟨rfl⟩, HY0⟩
      case round =>
        clear HY0
        obtain ⟨k, rfl, HG2, HY⟩ := hrel
        by_cases hk : k < n - 1
        · have hk0 : (0 : Int) ≤ k := by omega
          have hkn : (k : Int) < ((n - 1 : Nat) : Int) := by omega
          have hkn2 : (k : Int) < (n : Int) := by omega
          obtain ⟨g1, rfl⟩ : ∃ g1, gk = g1 + 1 := ⟨gk - 1, by have := HG2.out; omega⟩
          have mv : ∀ {p : Addr} {v : Value}, W2.cell? p = some v → wr.cell? p = some v := fun h => (HY.out.be.cell (World.block_lt_of_cell? _ _ h)).trans h
          have y0 := mv x0; have y1 := mv x1; have y2 := mv x2; have y3 := mv x3
          have za := mv (HCA.out k (by omega)); have zb := mv (HCB.out k (by omega)); have zc := mv (HCC.out k (by omega)); have zd := mv (HCD.out k (by omega))
          have hjb := joinsB_at sc (k := k) (by rw [← HN.out]; omega)
          generalize (sc 0).getD k 0 = pa at za hjb
          generalize (sc 1).getD k 0 = pb at zb hjb
          generalize (sc 2).getD k 0 = pc at zc hjb
          generalize (sc 3).getD k 0 = pd at zd hjb
          obtain ⟨S1, hS1⟩ : ∃ S1, S1 = wrap64 (pa + pb) := ⟨_, rfl⟩
          obtain ⟨S2, hS2⟩ : ∃ S2, S2 = wrap64 (pc + pd) := ⟨_, rfl⟩
          rw [← hS1, ← hS2] at hjb
          have hw1 : IntKind.i64.wrap (pa + pb) = S1 := by rw [i64_w, hS1]
          have hw2 : IntKind.i64.wrap (pc + pd) = S2 := by rw [i64_w, hS2]
          have HJB := Aside0.mk hjb
          have HK := Aside0.mk hk
          have hfy := blk_frozen HY.out.ya k
          have HYL : Aside0 (k < (stB (joinsB sc) k).length) := ⟨by rw [stB_length, joinsB_length, ← HN.out]; omega⟩
          have hcy : wr.cell? ⟨Y, k, none⟩ = some (.bool ((stB (joinsB sc) k).getD k false)) := by rw [blk_cell HY.out.ya]; simp [bools, List.getD_eq_getElem?_getD, List.getElem?_eq_getElem HYL.out]
          have hwk : IntKind.i64.wrap ((k : Int) + 1) = ((k + 1 : Nat) : Int) := by rw [i64_w]; unfold wrap64; omega
          generalize (stB (joinsB sc) k).getD k false = ob at hcy
          clear mv hjb hS1 hS2 hk
          go_wp2
          have hcyd : wr.drew.cell? ⟨Y, k, none⟩ = some (.bool ob) := hcy
          have hfyd : wr.drew.frozen? ⟨Y, k, none⟩ = false := hfy
          go_still_tail 26, (by kernel_rfl)
          repeat still_step
          try refine wpStill_nil ?_
          change wpList _ _ _ _ _ wr.drew
          have y0d : wr.drew.cell? _ = some _ := y0; have y1d : wr.drew.cell? _ = some _ := y1; have y2d : wr.drew.cell? _ = some _ := y2; have y3d : wr.drew.cell? _ = some _ := y3
          have zad : wr.drew.cell? _ = some _ := za; have zbd : wr.drew.cell? _ = some _ := zb; have zcd : wr.drew.cell? _ = some _ := zc; have zdd : wr.drew.cell? _ = some _ := zd
          have HYd := Aside0.mk (show YS W2 Y (joinsB sc) k wr.drew from ⟨HY.out.ya, HY.out.yb, below_drew HY.out.be⟩)
          clear y0 y1 y2 y3 za zb zc zd hcy hfy
          go_wp2
          go_roundg g1
          case measure => omega
          case rel =>
            refine ⟨k + 1, by first | rfl | (congr 1; push_cast; rfl), ⟨by have := HG2.out; have := HK.out; omega⟩, ⟨?_⟩⟩
            have h1 := HY.out.put (x := decide (S2 < S1)) (by rw [joinsB_length, ← HN.out]; have := HK.out; omega) (by rw [HJB.out])
            exact ⟨h1.ya, h1.yb, below_drew h1.be⟩
        · obtain rfl : k = n - 1 := by have := HG2.out; omega
          have hkn : ¬ (((n - 1 : Nat) : Int) < ((n - 1 : Nat) : Int)) := by omega
          clear hk
          go_wp2
          have he : stB (joinsB sc) (n - 1) = joinsB sc := stB_end _ (by rw [joinsB_length, ← HN.out]; omega) (joinsB_last sc (by rw [← HN.out]; omega))
          have hl : (joinsB sc).length = n := by rw [joinsB_length, ← HN.out]
          have hbe : Below w.heap.size w wr := below_step (below_step HB.out HJE.out.be) HY.out.be
          have hY : w.heap.size ≤ Y := Nat.le_trans (below_size (below_step HB.out HJE.out.be)) HY.out.yb
          have hya := HY.out.ya
          rw [he] at hya
          refine bodyPost_ret (v := .tuple #[.slice (some ⟨Y, 0, none⟩) n n, .int .i64 0]) (by simp [results, Try.results53, go_sem]) rfl ⟨_, rfl, ?_, hbe⟩
          refine Kd.R_of_own (enc := Value.bool) (h1 := fun _ => rfl) ?_ (fun _ _ => trivial)
          rw [hl]
          exact ⟨by simp [encs, hl], .inr ⟨Y, n, _, rfl, hY, hya, Nat.le_refl _, by unfold maxLen; omega, by simp [bools, encs, hl], by simp [bools, encs]; rw [List.take_of_length_le (by simp [hl])]⟩⟩
theorem quant_Joins.calls (A0 : Option Addr) (c0 : Nat) (l0 : List (List Int)) (A1 : Option Addr) (c1 : Nat) (l1 : List (List Int)) (r1 : List Bool) (r2 : Int) (w : World) (hr0 : Kd.C (Kd.slice 21 (Kd.int .i32)) w A0 l0.length l0) (hc0 : l0.length ≤ c0) (hr1 : Kd.C (Kd.slice 21 (Kd.int .i32)) w A1 l1.length l1) (hc1 : l1.length ≤ c1) (h : quant_Joins.f l0 l1 = some (r1, r2)) :
    Calls Try.prog 53 #[.slice A0 l0.length c0, .slice A1 l1.length c1] w fun e w' => ∃ v0_ : Value, e = .returned (.tuple #[v0_, .int .i64 r2]) ∧ Kd.R Kd.bool 4 w' w.heap.size (fun _ => True) v0_ r1 ∧ Below w.heap.size w w' := by
  obtain ⟨⟨m, s, e⟩, hM, h⟩ := Option.bind_eq_some_iff.1 h
  dsimp only at h
  by_cases he : e ≠ 0
  · rw [if_pos he] at h
    obtain ⟨rfl, rfl⟩ : ([] : List Bool) = r1 ∧ e = r2 := by simpa using h
    refine (joins_bad A0 c0 l0 A1 c1 l1 w hr0 hc0 hr1 hc1 m s e he hM).mono ?_
    rintro en w' ⟨rfl, hb⟩
    exact ⟨_, rfl, Kd.R_nil _ _ _ _ _, hb⟩
  · rw [if_neg he] at h
    have he0 : e = 0 := Classical.byContradiction he
    subst he0
    obtain ⟨a, ha, h⟩ := Option.bind_eq_some_iff.1 h
    obtain ⟨b, hb, h⟩ := Option.bind_eq_some_iff.1 h
    obtain ⟨c, hc, h⟩ := Option.bind_eq_some_iff.1 h
    obtain ⟨d, hd, h⟩ := Option.bind_eq_some_iff.1 h
    by_cases hok : joinsOK (four a.1 b.1 c.1 d.1) = true
    · rw [if_pos hok] at h
      obtain ⟨rfl, rfl⟩ : joinsB (four a.1 b.1 c.1 d.1) = r1 ∧ (0 : Int) = r2 := by simpa using h
      refine joins_ok A0 c0 l0 A1 c1 l1 w hr0 hc0 hr1 hc1 m s hM _ (four a.2 b.2 c.2 d.2) (fun j hj => ?_) hok
      have hcs : j = 0 ∨ j = 1 ∨ j = 2 ∨ j = 3 := by omega
      rcases hcs with rfl | rfl | rfl | rfl
      · exact ha
      · exact hb
      · exact hc
      · exact hd
    · rw [if_neg hok] at h; cases h
end Go.Proofs.Ytnaeondfkkiimaa.PPairs
