/- Shape: how loud the bands are, and the shape that is found. -/
import Derived.Test.YtblehkoonajofaaShapeBase
namespace Go.Proofs.Ytblehkoonajofaa.PShape
open Go.RowKit Go.Proofs.YtblehkoonajofaaW.PrintWords Go.Proofs.YtblehkoonajofaaW.PrintLast Go.Proofs.YtblehkoonajofaaW.PrintMore
attribute [local go_sem] max2_int min2_int max_two min_two max_three min_three max_four min_four   -- for this text's walks alone
set_option linter.unusedVariables false
set_option linter.unusedSimpArgs false
/-- The sum of the first ones. -/
def sumUpto (q : List Int) : Nat → Int
  | 0 => 0
  | k+1 => sumUpto q k + q.getD k 0
/-- How loud each band is, less how loud all are. -/
def loudL (h : List Int) : List Int := h.map fun x => x - Int.tdiv (sumUpto h 8) 8
structure LInv (w wx : World) (D : List Int) (Al : Option Addr) (cl : Nat) (l : List Int) (Ae : Option Addr) (ce : Nat) (E : List Int) : Prop where
  b2 : wx.heap[w.heap.size]? = some (.cells (nums .i64 (List.replicate 8 0)).toArray 49 (0, 0))
  b4 : wx.heap[w.heap.size + 1]? = some (.cells (nums .i64 D).toArray 49 (0, 0))
  lr : wx.ownsRow w.heap.size 90 1 (.slice Al 8 cl) 8 (nums .u64 l)
  er : wx.ownsRow w.heap.size 157 1 (.slice Ae 9 ce) 9 (nums .i64 E)
  be : Below w.heap.size w wx
section
variable {w wx wy : World} {D l E : List Int} {Al Ae : Option Addr} {cl ce : Nat}
theorem LInv.later (h : LInv w wx D Al cl l Ae ce E) (hb : Below wx.heap.size wx wy) : LInv w wy D Al cl l Ae ce E :=
  ⟨box_later h.b2 hb, box_later h.b4 hb, h.lr.kept (grown_of_below hb none) (by cases Value.ownBlock _ <;> simp), h.er.kept (grown_of_below hb none) (by cases Value.ownBlock _ <;> simp), below_step h.be hb⟩
theorem LInv.drew (h : LInv w wx D Al cl l Ae ce E) : LInv w wx.drew D Al cl l Ae ce E := h.later (below_drew (Below.refl _ _))
theorem LInv.set (h : LInv w wx D Al cl l Ae ce E) (i : Nat) (v : Int) : LInv w (wx.setCell ⟨w.heap.size + 1, i, none⟩ (.int .i64 v)) (D.set i v) Al cl l Ae ce E :=
  ⟨(Below.heap_setCell _ _ _ _ (by dsimp; omega)).trans h.b2, blk_store h.b4 i v, own_setCell (p := ⟨w.heap.size + 1, i, none⟩) h.lr (own_ne h.lr h.b4 (by decide)) _, own_setCell (p := ⟨w.heap.size + 1, i, none⟩) h.er (own_ne h.er h.b4 (by decide)) _, h.be.setCell (by dsimp; omega) _⟩
theorem LInv.lat (h : LInv w wx D Al cl l Ae ce E) {i : Nat} (hi : i < 8) : ∃ ad, Al = some ad ∧ wx.cell? (ad.add i) = some (.int .u64 (l.getD i 0)) := by
  obtain ⟨ad, eA, hc⟩ := (own_reads' h.lr).2.2 (by omega)
  exact ⟨ad, eA, hc i hi⟩
theorem LInv.eat (h : LInv w wx D Al cl l Ae ce E) {i : Nat} (hi : i < 8) : ∃ ad, Ae = some ad ∧ wx.cell? (ad.add i) = some (.int .i64 (E.getD i 0)) ∧ wx.cell? (ad.add (i + 1)) = some (.int .i64 (E.getD (i + 1) 0)) := by
  obtain ⟨ad, eA, hc⟩ := (own_reads' h.er).2.2 (by omega)
  exact ⟨ad, eA, hc i (by omega), hc (i + 1) (by omega)⟩
end
/-- What the energies and the edges of lines come to. -/
structure LFacts (k : Nat) (l E q h : List Int) : Prop where
  l8 : l.length = 8
  e9 : E.length = 9
  q8 : q.length = 8
  hh : h = q.map fun x => Int.tdiv x 2
  lb : ∀ i, 0 ≤ l.getD i 0 ∧ l.getD i 0 ≤ 18446744073709551615
  eb : ∀ i, i < 8 → 0 ≤ E.getD i 0 ∧ 2 ≤ E.getD (i + 1) 0 - E.getD i 0 ∧ E.getD (i + 1) 0 ≤ 120
  qb : ∀ i, 0 ≤ q.getD i 0 ∧ q.getD i 0 ≤ 20000
  lg : ∀ i, i < 8 → logs_Log.f k (l.getD i 0 / (E.getD (i + 1) 0 - E.getD i 0) + 1) = some (q.getD i 0, 0)
theorem LFacts.h_at {k : Nat} {l E q h : List Int} (f : LFacts k l E q h) {i : Nat} (hi : i < 8) : h.getD i 0 = Int.tdiv (q.getD i 0) 2 := by
  have h8 := f.q8
  rw [f.hh, List.getD_eq_getElem?_getD, List.getElem?_map, List.getD_eq_getElem?_getD, List.getElem?_eq_getElem (by omega)]; rfl
theorem LFacts.h8 {k : Nat} {l E q h : List Int} (f : LFacts k l E q h) : h.length = 8 := by rw [f.hh, List.length_map, f.q8]
theorem LFacts.hb {k : Nat} {l E q h : List Int} (f : LFacts k l E q h) (i : Nat) : 0 ≤ h.getD i 0 ∧ h.getD i 0 ≤ 10000 := by
  by_cases hi : i < 8
  · rw [f.h_at hi, Int.tdiv_eq_ediv_of_nonneg (f.qb i).1]; have := f.qb i; omega
  · rw [List.getD_eq_getElem?_getD, List.getElem?_eq_none (by rw [f.h8]; omega)]; decide
theorem sumUpto_b {h : List Int} (hb : ∀ i, 0 ≤ h.getD i 0 ∧ h.getD i 0 ≤ 10000) : ∀ k : Nat, 0 ≤ sumUpto h k ∧ sumUpto h k ≤ 10000 * k
  | 0 => ⟨Int.le_refl _, Int.le_refl _⟩
  | k+1 => by have h1 := sumUpto_b hb k; have h2 := hb k; simp only [sumUpto]; omega
theorem loudL_length (h : List Int) : (loudL h).length = h.length := by simp [loudL]
theorem loudL_at {h : List Int} {i : Nat} (hi : i < h.length) : (loudL h).getD i 0 = h.getD i 0 - Int.tdiv (sumUpto h 8) 8 := by
  rw [loudL, List.getD_eq_getElem?_getD, List.getElem?_map, List.getD_eq_getElem?_getD, List.getElem?_eq_getElem hi]; rfl
theorem mix_at {L h : List Int} {j n : Nat} (hj : j < n) (hL : L.length = n) (hh : h.length = n) : (L.take j ++ h.drop j).getD j 0 = h.getD j 0 := by
  rw [List.getD_eq_getElem?_getD, List.getElem?_append_right (by rw [List.length_take]; omega), List.length_take, Nat.min_eq_left (by omega), Nat.sub_self, List.getElem?_drop, List.getD_eq_getElem?_getD]; rfl
theorem mix_set {L h : List Int} {j n : Nat} (hj : j < n) (hL : L.length = n) (hh : h.length = n) : (L.take j ++ h.drop j).set j (L.getD j 0) = L.take (j + 1) ++ h.drop (j + 1) := by
  apply List.ext_getElem?
  intro m
  rw [List.getElem?_set]
  by_cases e : j = m
  · subst e
    rw [if_pos rfl, if_pos (by rw [List.length_append, List.length_take, List.length_drop]; omega), List.getElem?_append_left (by rw [List.length_take]; omega), List.getElem?_take, if_pos (by omega), List.getD_eq_getElem?_getD, List.getElem?_eq_getElem (by omega)]; rfl
  · rw [if_neg e]
    by_cases e2 : m < j
    · rw [List.getElem?_append_left (by rw [List.length_take]; omega), List.getElem?_append_left (by rw [List.length_take]; omega), List.getElem?_take, List.getElem?_take, if_pos e2, if_pos (by omega)]
    · rw [List.getElem?_append_right (by rw [List.length_take]; omega), List.getElem?_append_right (by rw [List.length_take]; omega), List.length_take, List.length_take, List.getElem?_drop, List.getElem?_drop, Nat.min_eq_left (by omega), Nat.min_eq_left (by omega)]
      congr 1; omega
set_option maxRecDepth 100000 in
theorem shape_loud.calls (k : Nat) (A0 : Option Addr) (c0 : Nat) (x l E q h : List Int) (w : World) (hr0 : Kd.C (Kd.int .i32) w A0 x.length x) (hc0 : x.length ≤ c0)
    (hl : band_Energies.f k x = some (l, 0)) (he : band_Edges.f (x.length : Int) = some (E, 0)) (hf : LFacts k l E q h) :
    Calls Try.prog 57 #[.slice A0 x.length c0] w fun e w' => e = .returned (.tuple #[arrI (loudL h), .int .i64 0]) ∧ Below w.heap.size w w' := by
  have HR0 := Aside0.mk hr0; have HC0 := Aside0.mk hc0; have HL := Aside0.mk hl; have HE := Aside0.mk he; have HF := Aside0.mk hf
  clear hr0 hc0 hl he hf
  have HBB := Aside0.mk (below_alloc (below_alloc (Below.refl w.heap.size w) (.cells (nums .i64 (List.replicate 8 0)).toArray 49)) (.cells (nums .i64 (List.replicate 8 0)).toArray 49))
  have HBX := Aside0.mk (two_new w (.cells (nums .i64 (List.replicate 8 0)).toArray 49) (.cells (nums .i64 (List.replicate 8 0)).toArray 49))
  have HRA := Aside0.mk (Kd.C_below HR0.out (below_alloc (below_alloc (Below.refl w.heap.size w) (.cells (nums .i64 (List.replicate 8 0)).toArray 49)) (.cells (nums .i64 (List.replicate 8 0)).toArray 49)))
  go_enter Try.func57, Try.ntmps57
  go_wp2_with (first | (go_at_call 88; refine (band_Energies.calls k A0 c0 x l 0 _ HRA.out HC0.out HL.out).mono ?_; rintro e w1 ⟨v1_, rfl, g1, g2⟩; obtain ⟨Al, cl, rfl⟩ := Kd.R_slice g1; have HV1 := Aside0.mk (show w1.ownsRow w.heap.size 90 1 (.slice Al 8 cl) 8 (nums .u64 l) from (by have g3 := Kd.own_of_R g1; rw [HF.out.l8] at g3; exact own_lower g3 (by rw [World.size_alloc, World.size_alloc]; omega))); have HB1 := Aside0.mk (below_step HBB.out g2); have HX1 := Aside0.mk (And.intro (box_later HBX.out.1 g2) (box_later HBX.out.2 g2)); rw [HF.out.l8]; clear g1 g2) | (go_at_call 89; refine (band_Edges.calls _ E 0 _ HE.out).mono ?_; rintro e w2 ⟨v2_, rfl, g1, g2⟩; obtain ⟨Ae, ce, rfl⟩ := Kd.R_slice g1; have HI := Aside0.mk (show LInv w w2 (List.replicate 8 0) Al cl l Ae ce E from ⟨box_later HX1.out.1 g2, box_later HX1.out.2 g2, HV1.out.kept (grown_of_below g2 none) (by cases Value.ownBlock _ <;> simp), (by have g3 := Kd.own_of_R g1; rw [HF.out.e9] at g3; exact own_lower g3 (below_size HB1.out)), below_step HB1.out g2⟩); rw [HF.out.e9]; clear g1 g2))
  clear HBB HBX HRA HR0 HC0 HL HE HV1 HB1 HX1
  go_loopg [9, 10, 11, 12, 13, 32, 33, 34, 35, 36, 37, 38, 39, 40, 41, 42, 43, 44, 45, 46, 47, 48, 49, 50, 51, 52, 53, 54, 55, 56, 57, 58, 59, 60, 61, 62, 63, 64] 8 (fun kq v9 v10 v11 v12 v13 v32 v33 v34 v35 v36 v37 v38 v39 v40 v41 v42 v43 v44 v45 v46 v47 v48 v49 v50 v51 v52 v53 v54 v55 v56 v57 v58 v59 v60 v61 v62 v63 v64 wx => ∃ i : Nat, v32 = .int .i64 (i : Int) ∧ v9 = .int .i64 (sumUpto h i) ∧ Aside0 (kq + i = 8) ∧ Aside0 (LInv w wx (h.take i ++ List.replicate (8 - i) 0) Al cl l Ae ce E))
  case atStart => exact ⟨0, rfl, rfl, ⟨rfl⟩, HI⟩
  case round =>
    clear HI
    obtain ⟨i, rfl, rfl, HG, HI⟩ := hrel
    by_cases hi : i < 8
    · have hi0 : (0 : Int) ≤ i := by omega
      have hi8 : (i : Int) < 8 := by omega
      have hi9 : (i : Int) < 9 := by omega
      have hj9 : (i : Int) + 1 < 9 := by omega
      have hj0 : (0 : Int) ≤ (i : Int) + 1 := by omega
      have hn9 : i + 1 < 9 := by omega
      have hm9 : i < 9 := by omega
      have ht1 : ((i : Int) + 1).toNat = i + 1 := by omega
      have hwi : IntKind.i64.wrap ((i : Int) + 1) = (i : Int) + 1 := by rw [i64_w]; unfold wrap64; omega
      obtain ⟨adl, rfl, hcl⟩ := HI.out.lat hi
      obtain ⟨ade, rfl, hce0, hce1⟩ := HI.out.eat hi
      have hlb := HF.out.lb i
      have heb := HF.out.eb i hi
      have hqb := HF.out.qb i
      have hlg := HF.out.lg i hi
      generalize l.getD i 0 = li at hcl hlb hlg
      generalize E.getD i 0 = e0 at hce0 heb hlg
      generalize E.getD (i + 1) 0 = e1 at hce1 heb hlg
      have hqi : q.getD i 0 = q.getD i 0 := rfl
      obtain ⟨qi, hqi⟩ : ∃ qi, qi = q.getD i 0 := ⟨_, rfl⟩
      rw [← hqi] at hqb hlg
      have HLG := Aside0.mk hlg
      have HQI := Aside0.mk hqi
      have HII := Aside0.mk hi
      clear hlg hqi
      obtain ⟨W, hW⟩ : ∃ W, W = e1 - e0 := ⟨_, rfl⟩
      have hW2 : 2 ≤ W ∧ W ≤ 120 := by omega
      have hw1 : IntKind.i64.wrap (e1 - e0) = W := by rw [i64_w]; unfold wrap64; omega
      have hw2 : IntKind.u64.wrap W = W := by rw [IntKind.wrap]; simp [IntKind.bits, IntKind.signed]; omega
      have hWn : W ≠ 0 := by omega
      have hWb : (W == 0) = false := by simp [hWn]
      obtain ⟨Q, hQ⟩ : ∃ Q, Q = li / W := ⟨_, rfl⟩
      have hq : Int.tdiv li W = Q := by rw [hQ, Int.tdiv_eq_ediv_of_nonneg hlb.1]
      have hQ2 : 0 ≤ Q ∧ Q ≤ 9223372036854775808 := by
        constructor
        · rw [hQ]; exact Int.ediv_nonneg hlb.1 (by omega)
        · rw [hQ]; exact Int.le_trans (Int.ediv_le_ediv (by omega) hlb.2) (by
            have t0 := Int.mul_ediv_self_le (x := (18446744073709551615 : Int)) (k := W) (by omega)
            have t1 : 0 ≤ (18446744073709551615 : Int) / W := Int.ediv_nonneg (by decide) (by omega)
            have t2 : 2 * ((18446744073709551615 : Int) / W) ≤ W * ((18446744073709551615 : Int) / W) := Int.mul_le_mul_of_nonneg_right hW2.1 t1
            generalize (18446744073709551615 : Int) / W = t at t0 t1 t2 ⊢
            generalize W * t = wt at t0 t2
            omega)
      have hu : IntKind.u64.wrap Q = Q := by rw [IntKind.wrap]; simp [IntKind.bits, IntKind.signed]; omega
      have hu1 : IntKind.u64.wrap (Q + 1) = Q + 1 := by rw [IntKind.wrap]; simp [IntKind.bits, IntKind.signed]; omega
      have hLG2 := HLG.out
      rw [← hW, ← hQ] at hLG2
      have HLG2 := Aside0.mk hLG2
      clear hLG2 hQ hW HLG
      go_wp2
      have HId := Aside0.mk HI.out.drew
      have hce1 : wr.cell? ⟨ade.block, ade.off + (i + 1), none⟩ = some (.int .i64 e1) := by rw [← hce1]; rfl
      have hce0d : wr.drew.cell? (ade.add i) = some (.int .i64 e0) := hce0
      have hce1d : wr.drew.cell? ⟨ade.block, ade.off + (i + 1), none⟩ = some (.int .i64 e1) := hce1
      go_region_held3 (fun w' => w'.cell? (ade.add i) = some (.int .i64 e0) ∧ w'.cell? ⟨ade.block, ade.off + (i + 1), none⟩ = some (.int .i64 e1)) (first | exact ⟨hce0, hce1⟩ | exact ⟨hce0d, hce1d⟩ | exact ⟨hce03, hce13⟩)
        (first | (go_at_call 90; refine (logs_Log.calls k (Q + 1) qi 0 _ HLG2.out).mono ?_; rintro e w3 ⟨rfl, hb3_⟩; have HI3 := Aside0.mk (HId.out.later hb3_); have hce03 : w3.cell? (ade.add i) = some (.int .i64 e0) := (hb3_.cell (World.block_lt_of_cell? _ _ hce0d)).trans hce0d; have hce13 : w3.cell? ⟨ade.block, ade.off + (i + 1), none⟩ = some (.int .i64 e1) := (hb3_.cell (World.block_lt_of_cell? _ _ hce1d)).trans hce1d; clear hb3_))
      have hH : h.getD i 0 = qi / 2 := by rw [HF.out.h_at HII.out, ← HQI.out, Int.tdiv_eq_ediv_of_nonneg hqb.1]
      obtain ⟨H, hHe⟩ : ∃ H, H = h.getD i 0 := ⟨_, rfl⟩
      have hd1 : Int.tdiv qi 2 = H := by rw [Int.tdiv_eq_ediv_of_nonneg hqb.1, hHe, hH]
      have hHb : 0 ≤ H ∧ H ≤ 10000 := by rw [hHe]; exact HF.out.hb i
      have hd2 : IntKind.i32.wrap H = H := by rw [i32_w]; unfold wrap32; omega
      have hd3 : IntKind.i64.wrap H = H := by rw [i64_w]; unfold wrap64; omega
      have hsb := sumUpto_b (fun j => HF.out.hb j) i
      have hss : sumUpto h (i + 1) = sumUpto h i + H := by rw [hHe]; rfl
      have hd4 : IntKind.i64.wrap (sumUpto h i + H) = sumUpto h i + H := by rw [i64_w]; unfold wrap64; omega
      have hoc := nums_at HI3.out.b4 (i := i) (by rw [List.length_append, List.length_take, List.length_replicate, HF.out.h8]; omega)
      have hof : w3.frozen? ⟨w.heap.size + 1, i, none⟩ = false := blk_frozen HI3.out.b4 i
      have HI4 := Aside0.mk (HI3.out.set i H)
      rw [hHe, set_next HII.out HF.out.h8, ← hHe] at HI4
      have HSS := Aside0.mk hss
      clear hH hHe hHb hsb hss hce0 hce1 hce0d hce1d hce03 hce13 hcl HId HI3 HLG2 hu hu1 hq hw1 hw2
      go_wp2
      obtain ⟨g0, rfl⟩ : ∃ g0, gk = g0 + 1 := ⟨gk - 1, by have := HG.out; have := HII.out; omega⟩
      go_roundg g0
      case measure => omega
      case rel => exact ⟨i + 1, by first | rfl | (congr 1; push_cast; rfl), by rw [HSS.out], ⟨by have := HG.out; omega⟩, HI4⟩
    · obtain rfl : i = 8 := by have := HG.out; omega
      have HI5 := Aside0.mk (show LInv w wr h Al cl l Ae ce E from by have h1 := HI.out; rw [Nat.sub_self, List.replicate_zero, List.append_nil, List.take_of_length_le (by rw [HF.out.h8]; exact Nat.le_refl _)] at h1; exact h1)
      have HSB := Aside0.mk (sumUpto_b (fun j => HF.out.hb j) 8)
      have HLA := Aside0.mk (fun (j : Nat) (hj : j < 8) => loudL_at (h := h) (i := j) (by rw [HF.out.h8]; exact hj))
      have HLL := Aside0.mk (show (loudL h).length = 8 from by rw [loudL_length, HF.out.h8])
      obtain ⟨T, hT⟩ : ∃ T, T = sumUpto h 8 := ⟨_, rfl⟩
      rw [← hT] at HSB HLA ⊢
      clear HI hT
      go_wp2
      go_loopg [14, 66, 67, 68, 69, 70, 71, 72, 73, 74, 75, 76] 8 (fun kq v14 v66 v67 v68 v69 v70 v71 v72 v73 v74 v75 v76 wx => ∃ j : Nat, v66 = .int .i64 (j : Int) ∧ Aside0 (kq + j = 8) ∧ Aside0 (LInv w wx ((loudL h).take j ++ h.drop j) Al cl l Ae ce E))
      case atStart => exact ⟨0, rfl, ⟨rfl⟩, ⟨HI5.out⟩⟩
      case round =>
        clear HI5 HG
        obtain ⟨j, rfl, HG, HI⟩ := hrel
        by_cases hj : j < 8
        · have hj0 : (0 : Int) ≤ j := by omega
          have hj8 : (j : Int) < 8 := by omega
          have hc := nums_at HI.out.b4 (i := j) (by rw [List.length_append, List.length_take, List.length_drop, HLL.out, HF.out.h8]; omega)
          rw [mix_at hj HLL.out HF.out.h8] at hc
          have hof : wr.frozen? ⟨w.heap.size + 1, j, none⟩ = false := blk_frozen HI.out.b4 j
          have hb := HF.out.hb j
          have hsb := HSB.out
          have hlj := HLA.out j hj
          generalize h.getD j 0 = y at hc hb hlj
          have hd1 : Int.tdiv T 8 = T / 8 := Int.tdiv_eq_ediv_of_nonneg hsb.1
          have hw1 : IntKind.i64.wrap (T / 8) = T / 8 := by rw [i64_w]; unfold wrap64; omega
          have hw2 : IntKind.i64.wrap (y - T / 8) = y - T / 8 := by rw [i64_w]; unfold wrap64; omega
          rw [hd1] at hlj
          have HLJ := Aside0.mk hlj
          have HJ := Aside0.mk hj
          clear hlj
          go_wp2
          rw [← HLJ.out]
          obtain ⟨g0, rfl⟩ : ∃ g0, gk = g0 + 1 := ⟨gk - 1, by have := HG.out; have := HJ.out; omega⟩
          go_roundg g0
          case measure => omega
          case rel => exact ⟨j + 1, by first | rfl | (congr 1; push_cast; rfl), ⟨by have := HG.out; omega⟩, ⟨by rw [← mix_set HJ.out HLL.out HF.out.h8]; exact HI.out.set j _⟩⟩
        · obtain rfl : j = 8 := by have := HG.out; omega
          have HI6 := Aside0.mk (show LInv w wr (loudL h) Al cl l Ae ce E from by have h1 := HI.out; rw [List.drop_eq_nil_of_le (by rw [HF.out.h8]; exact Nat.le_refl _), List.append_nil, List.take_of_length_le (by rw [HLL.out]; exact Nat.le_refl _)] at h1; exact h1)
          clear HI
          obtain ⟨D, hD⟩ : ∃ D, D = loudL h := ⟨_, rfl⟩
          rw [← hD] at HI6 HLL
          obtain ⟨d0, d1, d2, d3, d4, d5, d6, d7, rfl⟩ := eight HLL.out
          have HD := Aside0.mk hD
          clear hD
          have hx := HI6.out.b4
          simp only [nums, List.map] at hx
          have c0 := fun j v (hj : (#[Value.int .i64 d0, .int .i64 d1, .int .i64 d2, .int .i64 d3, .int .i64 d4, .int .i64 d5, .int .i64 d6, .int .i64 d7] : Array Value)[j]? = some v) => (blk_cell hx j).trans hj
          have x0 := c0 0 _ rfl; have x1 := c0 1 _ rfl; have x2 := c0 2 _ rfl; have x3 := c0 3 _ rfl; have x4 := c0 4 _ rfl; have x5 := c0 5 _ rfl; have x6 := c0 6 _ rfl; have x7 := c0 7 _ rfl
          clear c0 hx
          go_wp2_with (first | (refine wpList_store_row rfl 49 _ _ rfl w.heap.size #[.int .i64 d0, .int .i64 d1, .int .i64 d2, .int .i64 d3, .int .i64 d4, .int .i64 d5, .int .i64 d6, .int .i64 d7] rfl rfl 49 (nums .i64 (List.replicate 8 0)).toArray HI6.out.b2 (by kernel_rfl) (by kernel_rfl) (by kernel_rfl) ?_))
          have hz := setRow_heap wr w.heap.size (nums .i64 (List.replicate 8 0)).toArray #[.int .i64 d0, .int .i64 d1, .int .i64 d2, .int .i64 d3, .int .i64 d4, .int .i64 d5, .int .i64 d6, .int .i64 d7] 49 (0, 0) HI6.out.b2
          have HBZ := Aside0.mk (below_setRow HI6.out.be (Nat.le_refl _) #[.int .i64 d0, .int .i64 d1, .int .i64 d2, .int .i64 d3, .int .i64 d4, .int .i64 d5, .int .i64 d6, .int .i64 d7])
          generalize wr.setRow w.heap.size #[.int .i64 d0, .int .i64 d1, .int .i64 d2, .int .i64 d3, .int .i64 d4, .int .i64 d5, .int .i64 d6, .int .i64 d7] = wz at hz HBZ ⊢
          have c0 := fun j v (hj : (#[Value.int .i64 d0, .int .i64 d1, .int .i64 d2, .int .i64 d3, .int .i64 d4, .int .i64 d5, .int .i64 d6, .int .i64 d7] : Array Value)[j]? = some v) => (blk_cell hz j).trans hj
          have z0 := c0 0 _ rfl; have z1 := c0 1 _ rfl; have z2 := c0 2 _ rfl; have z3 := c0 3 _ rfl; have z4 := c0 4 _ rfl; have z5 := c0 5 _ rfl; have z6 := c0 6 _ rfl; have z7 := c0 7 _ rfl
          clear c0 hz
          exact bodyPost_ret (v := .tuple #[.agg #[.int .i64 d0, .int .i64 d1, .int .i64 d2, .int .i64 d3, .int .i64 d4, .int .i64 d5, .int .i64 d6, .int .i64 d7], .int .i64 0]) (by simp [results, Try.results57, go_sem, z0, z1, z2, z3, z4, z5, z6, z7]) rfl ⟨by rw [← HD.out]; rfl, HBZ.out⟩
/-- The code that is nearest, among the first ones. -/
def bestUpto (D : List Int) : Nat → Nat
  | 0 => 0
  | c+1 => if far D (rowOf c) < far D (rowOf (bestUpto D c)) then c else bestUpto D c
theorem bestUpto_le (D : List Int) : ∀ c, c ≤ 16 → bestUpto D c ≤ 15
  | 0, _ => by simp [bestUpto]
  | c+1, h => by simp only [bestUpto]; split; · omega
                 · exact bestUpto_le D c (by omega)
def clip43 (v : Int) : Int := if v < -4 then -4 else if v > 3 then 3 else v
def restL (D : List Int) (c : Nat) : List Int := (List.range 8).map fun b => clip43 ((D.getD b 0 - (rowOf c).getD b 0 + 64) / 128)
def z8 : List Int := [0, 0, 0, 0, 0, 0, 0, 0]
structure FS (b2 b4 b6 b7 : Nat) (D : List Int) (s : Nat) (R : List Int) (W : World) : Prop where
  z : W.heap[b2]? = some (.cells (.int .i64 0 :: nums .i64 z8).toArray 51 (0, 0))
  d : W.heap[b4]? = some (.cells (nums .i64 D).toArray 49 (0, 0))
  k : W.heap[b6]? = some (.cells bookC 100 (0, 0))
  s : W.heap[b7]? = some (.cells (.int .i64 s :: nums .i64 R).toArray 51 (0, 0))
theorem size49 : (Try.prog.info? 49).map (·.size) = some 8 := by kernel_rfl
theorem rows_cut (c : Nat) (hc : c ≤ 15) : (bookC.extract (8 * c) (8 * c + 8)).toList = nums .i64 (rowOf c) := by
  have at0 : (bookC.extract (8 * 0) (8 * 0 + 8)).toList = nums .i64 (rowOf 0) := by kernel_rfl
  have at1 : (bookC.extract (8 * 1) (8 * 1 + 8)).toList = nums .i64 (rowOf 1) := by kernel_rfl
  have at2 : (bookC.extract (8 * 2) (8 * 2 + 8)).toList = nums .i64 (rowOf 2) := by kernel_rfl
  have at3 : (bookC.extract (8 * 3) (8 * 3 + 8)).toList = nums .i64 (rowOf 3) := by kernel_rfl
  have at4 : (bookC.extract (8 * 4) (8 * 4 + 8)).toList = nums .i64 (rowOf 4) := by kernel_rfl
  have at5 : (bookC.extract (8 * 5) (8 * 5 + 8)).toList = nums .i64 (rowOf 5) := by kernel_rfl
  have at6 : (bookC.extract (8 * 6) (8 * 6 + 8)).toList = nums .i64 (rowOf 6) := by kernel_rfl
  have at7 : (bookC.extract (8 * 7) (8 * 7 + 8)).toList = nums .i64 (rowOf 7) := by kernel_rfl
  have at8 : (bookC.extract (8 * 8) (8 * 8 + 8)).toList = nums .i64 (rowOf 8) := by kernel_rfl
  have at9 : (bookC.extract (8 * 9) (8 * 9 + 8)).toList = nums .i64 (rowOf 9) := by kernel_rfl
  have at10 : (bookC.extract (8 * 10) (8 * 10 + 8)).toList = nums .i64 (rowOf 10) := by kernel_rfl
  have at11 : (bookC.extract (8 * 11) (8 * 11 + 8)).toList = nums .i64 (rowOf 11) := by kernel_rfl
  have at12 : (bookC.extract (8 * 12) (8 * 12 + 8)).toList = nums .i64 (rowOf 12) := by kernel_rfl
  have at13 : (bookC.extract (8 * 13) (8 * 13 + 8)).toList = nums .i64 (rowOf 13) := by kernel_rfl
  have at14 : (bookC.extract (8 * 14) (8 * 14 + 8)).toList = nums .i64 (rowOf 14) := by kernel_rfl
  have at15 : (bookC.extract (8 * 15) (8 * 15 + 8)).toList = nums .i64 (rowOf 15) := by kernel_rfl
  have h : c = 0 ∨ c = 1 ∨ c = 2 ∨ c = 3 ∨ c = 4 ∨ c = 5 ∨ c = 6 ∨ c = 7 ∨ c = 8 ∨ c = 9 ∨ c = 10 ∨ c = 11 ∨ c = 12 ∨ c = 13 ∨ c = 14 ∨ c = 15 := by omega
  rcases h with rfl | rfl | rfl | rfl | rfl | rfl | rfl | rfl | rfl | rfl | rfl | rfl | rfl | rfl | rfl | rfl
  · exact at0
  · exact at1
  · exact at2
  · exact at3
  · exact at4
  · exact at5
  · exact at6
  · exact at7
  · exact at8
  · exact at9
  · exact at10
  · exact at11
  · exact at12
  · exact at13
  · exact at14
  · exact at15
section
variable {b2 b4 b6 b7 : Nat} {D R : List Int} {s : Nat} {wx wy : World}
theorem FS.later (h : FS b2 b4 b6 b7 D s R wx) (hb : Below wx.heap.size wx wy) : FS b2 b4 b6 b7 D s R wy := ⟨box_later h.z hb, box_later h.d hb, box_later h.k hb, box_later h.s hb⟩
theorem FS.drew (h : FS b2 b4 b6 b7 D s R wx) : FS b2 b4 b6 b7 D s R wx.drew := ⟨h.z, h.d, h.k, h.s⟩
theorem FS.loadD (hD : D.length = 8) (h : FS b2 b4 b6 b7 D s R wx) : (Instr.loadAt 49 (.pointer (some ⟨b4, 0, none⟩))).run Try.prog wx = .ok (arrI D) wx := by
  have h1 := run_loadAt_mid (P := Try.prog) wx b4 0 49 (nums .i64 D) _ (fun j v hv => by rw [Nat.zero_add, blk_cell h.d]; simpa using hv) Try.underlying49 rfl (by rw [nums_length, hD]; exact size49)
  exact h1
theorem FS.loadK (h : FS b2 b4 b6 b7 D s R wx) (c : Nat) (hc : c ≤ 15) : (Instr.loadAt 49 (.pointer (some ⟨b6, 8 * c, none⟩))).run Try.prog wx = .ok (arrI (rowOf c)) wx := by
  have h1 := run_loadAt_mid (P := Try.prog) wx b6 (8 * c) 49 (nums .i64 (rowOf c)) _ (by rw [← rows_cut c hc]; exact World.rangeAt_of_block h.k (8 * c) 8) Try.underlying49 rfl (by rw [nums_length, (rowOf_small c hc).1]; exact size49)
  exact h1
end
theorem rowS (c : Nat) (hc : c ≤ 15) : small (rowOf c) := ⟨(rowOf_small c hc).1, fun k => by have := (rowOf_small c hc).2 k; omega⟩
theorem FS.cellK {b2 b4 b6 b7 : Nat} {D R : List Int} {s : Nat} {wx : World} (h : FS b2 b4 b6 b7 D s R wx) (c : Nat) (hc : c ≤ 15) {v : Value} (j : Nat) (hv : (nums .i64 (rowOf c))[j]? = some v) : wx.cell? ⟨b6, c * 8 + j, none⟩ = some v := by
  rw [Nat.mul_comm]
  exact World.rangeAt_of_block h.k (8 * c) 8 j v (by rw [rows_cut c hc]; exact hv)
theorem FS.cellD {b2 b4 b6 b7 : Nat} {D R : List Int} {s : Nat} {wx : World} (h : FS b2 b4 b6 b7 D s R wx) {v : Value} (j : Nat) (hv : (nums .i64 D).toArray[j]? = some v) : wx.cell? ⟨b4, j, none⟩ = some v := (blk_cell h.d j).trans hv
theorem shape_distance.cells (a0 a1 a2 a3 a4 a5 a6 a7 b0 b1 b2 b3 b4 b5 b6 b7 : Int) (ha : small [a0, a1, a2, a3, a4, a5, a6, a7]) (hb : small [b0, b1, b2, b3, b4, b5, b6, b7]) (w : World) : Calls Try.prog 59 #[.agg #[.int .i64 a0, .int .i64 a1, .int .i64 a2, .int .i64 a3, .int .i64 a4, .int .i64 a5, .int .i64 a6, .int .i64 a7], .agg #[.int .i64 b0, .int .i64 b1, .int .i64 b2, .int .i64 b3, .int .i64 b4, .int .i64 b5, .int .i64 b6, .int .i64 b7]] w fun e w' => e = .returned (.int .i64 (far [a0, a1, a2, a3, a4, a5, a6, a7] [b0, b1, b2, b3, b4, b5, b6, b7])) ∧ Below w.heap.size w w' :=
  shape_distance.calls [a0, a1, a2, a3, a4, a5, a6, a7] [b0, b1, b2, b3, b4, b5, b6, b7] ha hb w
theorem FS.setS {b2 b4 b6 b7 : Nat} {D R : List Int} {s : Nat} {wx : World} (h : FS b2 b4 b6 b7 D s R wx) (n2 : b2 ≠ b7) (n4 : b4 ≠ b7) (n6 : b6 ≠ b7) (c : Nat) : FS b2 b4 b6 b7 D c R (wx.setCell ⟨b7, 0, none⟩ (.int .i64 c)) := by
  refine ⟨(Below.heap_setCell _ _ _ _ n2).trans h.z, (Below.heap_setCell _ _ _ _ n4).trans h.d, (Below.heap_setCell _ _ _ _ n6).trans h.k, ?_⟩
  have h1 := blk_set h.s 0 (.int .i64 c)
  rw [h1]; simp
theorem FS.setR {b2 b4 b6 b7 : Nat} {D R : List Int} {s : Nat} {wx : World} (h : FS b2 b4 b6 b7 D s R wx) (n2 : b2 ≠ b7) (n4 : b4 ≠ b7) (n6 : b6 ≠ b7) (i : Nat) (v : Int) : FS b2 b4 b6 b7 D s (R.set i v) (wx.setCell ⟨b7, 1 + i, none⟩ (.int .i64 v)) := by
  refine ⟨(Below.heap_setCell _ _ _ _ n2).trans h.z, (Below.heap_setCell _ _ _ _ n4).trans h.d, (Below.heap_setCell _ _ _ _ n6).trans h.k, ?_⟩
  have h1 := blk_set h.s (1 + i) (.int .i64 v)
  rw [h1, Nat.add_comm]; simp [nums, List.map_set]
theorem clip_eq (v : Int) : fix_Clip.f v (-4) 3 = some (clip43 v) := by
  unfold fix_Clip.f fix_within_int64.f clip43
  split
  · rfl
  · split <;> rfl
theorem restL_length (D : List Int) (c : Nat) : (restL D c).length = 8 := by simp [restL]
theorem restL_at (D : List Int) (c : Nat) {b : Nat} (h : b < 8) : (restL D c).getD b 0 = clip43 ((D.getD b 0 - (rowOf c).getD b 0 + 64) / 128) := by
  rw [restL, List.getD_eq_getElem?_getD, List.getElem?_map, List.getElem?_range h]; rfl
theorem cons_at {v : Value} {L : List Int} {j : Nat} (hj : j < L.length) : (v :: nums .i64 L).toArray[j + 1]? = some (.int .i64 (L.getD j 0)) := by
  rw [List.getElem?_toArray, List.getElem?_cons_succ, nums, List.getElem?_map, List.getElem?_eq_getElem hj, List.getD_eq_getElem?_getD, List.getElem?_eq_getElem hj]; rfl
set_option maxRecDepth 100000 in
theorem shape_Find.calls (k : Nat) (A0 : Option Addr) (c0 : Nat) (x l E q h D : List Int) (w : World) (hr0 : Kd.C (Kd.int .i32) w A0 x.length x) (hc0 : x.length ≤ c0)
    (hl : band_Energies.f k x = some (l, 0)) (he : band_Edges.f (x.length : Int) = some (E, 0)) (hf : LFacts k l E q h) (hD : D = loudL h) (hDs : small D) :
    Calls Try.prog 25 #[.slice A0 x.length c0] w fun e w' => e = .returned (.tuple #[shapeV (bestUpto D 16) (restL D (bestUpto D 16)), .int .i64 0]) ∧ Below w.heap.size w w' := by
  have HR0 := Aside0.mk hr0; have HC0 := Aside0.mk hc0
  have HL := Aside0.mk (fun W (g1 : Kd.C (Kd.int .i32) W A0 x.length x) => shape_loud.calls k A0 c0 x l E q h W g1 hc0 hl he hf)
  have HD := Aside0.mk hD; have HDS := Aside0.mk hDs
  clear hr0 hc0 hl he hf hD hDs
  have HBB := Aside0.mk (below_alloc (Below.refl w.heap.size w) (.cells (.int .i64 0 :: nums .i64 (List.replicate 8 0)).toArray 51))
  have HBX := Aside0.mk (blk_new w (.cells (.int .i64 0 :: nums .i64 (List.replicate 8 0)).toArray 51))
  have HRA := Aside0.mk (Kd.C_below HR0.out (below_alloc (Below.refl w.heap.size w) (.cells (.int .i64 0 :: nums .i64 (List.replicate 8 0)).toArray 51)))
  obtain ⟨d0, d1, d2, d3, d4, d5, d6, d7, rfl⟩ := eight HDS.out.1
  go_enter Try.func25, Try.ntmps25
  go_wp2_with (first | (go_at_call 57; refine (HL.out _ HRA.out).mono ?_; rintro e w1 ⟨rfl, hb1_⟩; rw [← HD.out]; have HB1 := Aside0.mk (below_step HBB.out hb1_); have HX1 := Aside0.mk (box_later HBX.out hb1_); clear hb1_) | (refine wpList_store_row rfl 49 _ _ rfl w1.heap.size (nums .i64 [d0, d1, d2, d3, d4, d5, d6, d7]).toArray rfl rfl 49 (nums .i64 (List.replicate 8 0)).toArray (blk_new w1 _) (by kernel_rfl) (by kernel_rfl) (by kernel_rfl) ?_))
  have hsr := setRow_heap (w1.alloc (.cells (nums .i64 (List.replicate 8 0)).toArray 49)) w1.heap.size (nums .i64 (List.replicate 8 0)).toArray (nums .i64 [d0, d1, d2, d3, d4, d5, d6, d7]).toArray 49 (0, 0) (blk_new w1 _)
  have H4 := Aside0.mk hsr
  have HB2 := Aside0.mk (below_setRow (below_alloc HB1.out (.cells (nums .i64 (List.replicate 8 0)).toArray 49)) (below_size HB1.out) (nums .i64 [d0, d1, d2, d3, d4, d5, d6, d7]).toArray)
  have hz2 : ((w1.alloc (.cells (nums .i64 (List.replicate 8 0)).toArray 49)).setRow w1.heap.size (nums .i64 [d0, d1, d2, d3, d4, d5, d6, d7]).toArray).heap[w.heap.size]? = some (.cells (.int .i64 0 :: nums .i64 (List.replicate 8 0)).toArray 51 (0, 0)) := by
    rw [setRow_other _ _ _ _ (by have := blk_lt HX1.out; omega)]; exact box_later HX1.out (below_alloc (Below.refl _ _) _)
  have HZ2 := Aside0.mk hz2
  have HLT := Aside0.mk (blk_lt HX1.out)
  clear hsr hz2 HB1 HX1 HBB HBX HRA HR0 HC0 HL
  change Calls _ _ _ ((w1.alloc (.cells (nums .i64 (List.replicate 8 0)).toArray 49)).setRow w1.heap.size (nums .i64 [d0, d1, d2, d3, d4, d5, d6, d7]).toArray) _
  generalize (w1.alloc (.cells (nums .i64 (List.replicate 8 0)).toArray 49)).setRow w1.heap.size (nums .i64 [d0, d1, d2, d3, d4, d5, d6, d7]).toArray = w2 at H4 HB2 HZ2 ⊢
  generalize w1.heap.size = b4 at H4 HLT ⊢
  refine (shape_book.calls _).mono ?_
  rintro e w3 ⟨rfl, hb3_⟩
  have HB3 := Aside0.mk (below_step HB2.out hb3_)
  have H43 := Aside0.mk (box_later H4.out hb3_)
  have HZ3 := Aside0.mk (box_later HZ2.out hb3_)
  clear hb3_ HB2 H4 HZ2
  go_wp2_with (first | (refine wpList_store_row rfl 100 _ _ rfl w3.heap.size bookC rfl rfl 100 Try.zeroCells100 (blk_new w3 _) (by kernel_rfl) (by kernel_rfl) (by kernel_rfl) ?_))
  have hsr := setRow_heap (w3.alloc (.cells Try.zeroCells100 100)) w3.heap.size Try.zeroCells100 bookC 100 (0, 0) (blk_new w3 _)
  have hbs := below_setRow (below_alloc (Below.refl w3.heap.size w3) (.cells Try.zeroCells100 100)) (Nat.le_refl _) bookC
  have HB4 := Aside0.mk (below_step HB3.out hbs)
  have H44 := Aside0.mk (box_later H43.out hbs)
  have HZ4 := Aside0.mk (box_later HZ3.out hbs)
  have hzz : ((w3.alloc (.cells Try.zeroCells100 100)).setRow w3.heap.size bookC).heap.size = w3.heap.size + 1 := by rw [size_setRow, World.size_alloc]
  have HK4 := Aside0.mk hsr
  have HLT3 := Aside0.mk (And.intro (blk_lt H43.out) (below_size HB3.out))
  clear hsr hbs HB3 H43 HZ3
  generalize (w3.alloc (.cells Try.zeroCells100 100)).setRow w3.heap.size bookC = w4 at HB4 H44 HZ4 HK4 hzz ⊢
  generalize w3.heap.size = b6 at HK4 hzz HLT3 ⊢
  have hba := below_alloc (Below.refl w4.heap.size w4) (.cells (.int .i64 0 :: nums .i64 (List.replicate 8 0)).toArray 51)
  obtain ⟨DD, hDD⟩ : ∃ DD, DD = [d0, d1, d2, d3, d4, d5, d6, d7] := ⟨_, rfl⟩
  have HDD := Aside0.mk hDD
  have HDS2 := Aside0.mk (show small DD from by rw [hDD]; exact HDS.out)
  clear hDD
  have HF0 := Aside0.mk (show FS w.heap.size b4 b6 (b6 + 1) DD 0 z8 (w4.alloc (.cells (.int .i64 0 :: nums .i64 (List.replicate 8 0)).toArray 51)) from ⟨box_later HZ4.out hba, by rw [HDD.out]; exact box_later H44.out hba, box_later HK4.out hba, by rw [← hzz]; exact blk_new w4 _⟩)
  have HB5 := Aside0.mk (below_step HB4.out hba)
  change Code.wp _ _ _ _ (w4.alloc (.cells (.int .i64 0 :: nums .i64 (List.replicate 8 0)).toArray 51))
  generalize w4.alloc (.cells (.int .i64 0 :: nums .i64 (List.replicate 8 0)).toArray 51) = w5 at HF0 HB5 ⊢
  clear hba HB4 H44 HZ4 HK4 hzz
  go_loopg [8, 21, 22, 23, 24, 25, 26, 27, 28, 29, 30, 31, 32, 33, 34, 35, 36, 37, 38] 16 (fun kq v8 v21 v22 v23 v24 v25 v26 v27 v28 v29 v30 v31 v32 v33 v34 v35 v36 v37 v38 wx => ∃ c : Nat, v21 = .int .i64 (c : Int) ∧ Aside0 (kq + c = 16) ∧ Aside0 (FS w.heap.size b4 b6 (b6 + 1) DD (bestUpto DD c) z8 wx) ∧ Aside0 (Below w.heap.size w wx))
  case atStart => exact ⟨0, rfl, ⟨rfl⟩, ⟨HF0.out⟩, ⟨HB5.out⟩⟩
  case round =>
    clear HF0 HB5
    obtain ⟨c, rfl, HG, HF, HB⟩ := hrel
    by_cases hc : c < 16
    · have hc0 : (0 : Int) ≤ c := by omega
      have hc16 : (c : Int) < 16 := by omega
      have hsl := bestUpto_le DD c (by omega)
      have hbs : bestUpto DD (c + 1) = if far DD (rowOf c) < far DD (rowOf (bestUpto DD c)) then c else bestUpto DD c := rfl
      have HBS := Aside0.mk hbs
      clear hbs
      obtain ⟨s, hs⟩ : ∃ s, s = bestUpto DD c := ⟨_, rfl⟩
      rw [← hs] at HF HBS hsl
      clear hs
      have hs0 : (0 : Int) ≤ s := by omega
      have hs16 : (s : Int) < 16 := by omega
      obtain ⟨p0, p1, p2, p3, p4, p5, p6, p7, hp⟩ := eight (rowOf_small c (by omega)).1
      obtain ⟨t0, t1, t2, t3, t4, t5, t6, t7, ht⟩ := eight (rowOf_small s (by omega)).1
      have fd0 : ∀ W, FS w.heap.size b4 b6 (b6 + 1) DD s z8 W → W.cell? ⟨b4, 0, none⟩ = some (.int .i64 d0) := fun W hW => hW.cellD 0 (by rw [HDD.out]; rfl)
      have fd1 : ∀ W, FS w.heap.size b4 b6 (b6 + 1) DD s z8 W → W.cell? ⟨b4, 1, none⟩ = some (.int .i64 d1) := fun W hW => hW.cellD 1 (by rw [HDD.out]; rfl)
      have fd2 : ∀ W, FS w.heap.size b4 b6 (b6 + 1) DD s z8 W → W.cell? ⟨b4, 2, none⟩ = some (.int .i64 d2) := fun W hW => hW.cellD 2 (by rw [HDD.out]; rfl)
      have fd3 : ∀ W, FS w.heap.size b4 b6 (b6 + 1) DD s z8 W → W.cell? ⟨b4, 3, none⟩ = some (.int .i64 d3) := fun W hW => hW.cellD 3 (by rw [HDD.out]; rfl)
      have fd4 : ∀ W, FS w.heap.size b4 b6 (b6 + 1) DD s z8 W → W.cell? ⟨b4, 4, none⟩ = some (.int .i64 d4) := fun W hW => hW.cellD 4 (by rw [HDD.out]; rfl)
      have fd5 : ∀ W, FS w.heap.size b4 b6 (b6 + 1) DD s z8 W → W.cell? ⟨b4, 5, none⟩ = some (.int .i64 d5) := fun W hW => hW.cellD 5 (by rw [HDD.out]; rfl)
      have fd6 : ∀ W, FS w.heap.size b4 b6 (b6 + 1) DD s z8 W → W.cell? ⟨b4, 6, none⟩ = some (.int .i64 d6) := fun W hW => hW.cellD 6 (by rw [HDD.out]; rfl)
      have fd7 : ∀ W, FS w.heap.size b4 b6 (b6 + 1) DD s z8 W → W.cell? ⟨b4, 7, none⟩ = some (.int .i64 d7) := fun W hW => hW.cellD 7 (by rw [HDD.out]; rfl)
      have fp0 : ∀ W, FS w.heap.size b4 b6 (b6 + 1) DD s z8 W → W.cell? ⟨b6, c * 8, none⟩ = some (.int .i64 p0) := fun W hW => hW.cellK c (by omega) 0 (by rw [hp]; rfl)
      have fp1 : ∀ W, FS w.heap.size b4 b6 (b6 + 1) DD s z8 W → W.cell? ⟨b6, c * 8 + 1, none⟩ = some (.int .i64 p1) := fun W hW => hW.cellK c (by omega) 1 (by rw [hp]; rfl)
      have fp2 : ∀ W, FS w.heap.size b4 b6 (b6 + 1) DD s z8 W → W.cell? ⟨b6, c * 8 + 2, none⟩ = some (.int .i64 p2) := fun W hW => hW.cellK c (by omega) 2 (by rw [hp]; rfl)
      have fp3 : ∀ W, FS w.heap.size b4 b6 (b6 + 1) DD s z8 W → W.cell? ⟨b6, c * 8 + 3, none⟩ = some (.int .i64 p3) := fun W hW => hW.cellK c (by omega) 3 (by rw [hp]; rfl)
      have fp4 : ∀ W, FS w.heap.size b4 b6 (b6 + 1) DD s z8 W → W.cell? ⟨b6, c * 8 + 4, none⟩ = some (.int .i64 p4) := fun W hW => hW.cellK c (by omega) 4 (by rw [hp]; rfl)
      have fp5 : ∀ W, FS w.heap.size b4 b6 (b6 + 1) DD s z8 W → W.cell? ⟨b6, c * 8 + 5, none⟩ = some (.int .i64 p5) := fun W hW => hW.cellK c (by omega) 5 (by rw [hp]; rfl)
      have fp6 : ∀ W, FS w.heap.size b4 b6 (b6 + 1) DD s z8 W → W.cell? ⟨b6, c * 8 + 6, none⟩ = some (.int .i64 p6) := fun W hW => hW.cellK c (by omega) 6 (by rw [hp]; rfl)
      have fp7 : ∀ W, FS w.heap.size b4 b6 (b6 + 1) DD s z8 W → W.cell? ⟨b6, c * 8 + 7, none⟩ = some (.int .i64 p7) := fun W hW => hW.cellK c (by omega) 7 (by rw [hp]; rfl)
      have ft0 : ∀ W, FS w.heap.size b4 b6 (b6 + 1) DD s z8 W → W.cell? ⟨b6, s * 8, none⟩ = some (.int .i64 t0) := fun W hW => hW.cellK s (by omega) 0 (by rw [ht]; rfl)
      have ft1 : ∀ W, FS w.heap.size b4 b6 (b6 + 1) DD s z8 W → W.cell? ⟨b6, s * 8 + 1, none⟩ = some (.int .i64 t1) := fun W hW => hW.cellK s (by omega) 1 (by rw [ht]; rfl)
      have ft2 : ∀ W, FS w.heap.size b4 b6 (b6 + 1) DD s z8 W → W.cell? ⟨b6, s * 8 + 2, none⟩ = some (.int .i64 t2) := fun W hW => hW.cellK s (by omega) 2 (by rw [ht]; rfl)
      have ft3 : ∀ W, FS w.heap.size b4 b6 (b6 + 1) DD s z8 W → W.cell? ⟨b6, s * 8 + 3, none⟩ = some (.int .i64 t3) := fun W hW => hW.cellK s (by omega) 3 (by rw [ht]; rfl)
      have ft4 : ∀ W, FS w.heap.size b4 b6 (b6 + 1) DD s z8 W → W.cell? ⟨b6, s * 8 + 4, none⟩ = some (.int .i64 t4) := fun W hW => hW.cellK s (by omega) 4 (by rw [ht]; rfl)
      have ft5 : ∀ W, FS w.heap.size b4 b6 (b6 + 1) DD s z8 W → W.cell? ⟨b6, s * 8 + 5, none⟩ = some (.int .i64 t5) := fun W hW => hW.cellK s (by omega) 5 (by rw [ht]; rfl)
      have ft6 : ∀ W, FS w.heap.size b4 b6 (b6 + 1) DD s z8 W → W.cell? ⟨b6, s * 8 + 6, none⟩ = some (.int .i64 t6) := fun W hW => hW.cellK s (by omega) 6 (by rw [ht]; rfl)
      have ft7 : ∀ W, FS w.heap.size b4 b6 (b6 + 1) DD s z8 W → W.cell? ⟨b6, s * 8 + 7, none⟩ = some (.int .i64 t7) := fun W hW => hW.cellK s (by omega) 7 (by rw [ht]; rfl)
      have fs0 : ∀ W, FS w.heap.size b4 b6 (b6 + 1) DD s z8 W → W.cell? ⟨b6 + 1, 0, none⟩ = some (.int .i64 s) := fun W hW => by rw [blk_cell hW.s]; rfl
      have HRC := Aside0.mk (rowS c (by omega))
      have HRS := Aside0.mk (rowS s (by omega))
      rw [hp] at HRC HBS
      rw [ht] at HRS HBS
      have HFd := Aside0.mk HF.out.drew
      have HBd := Aside0.mk (below_drew HB.out)
      clear hp ht
      go_wp2
      go_region_held3 (fun W => FS w.heap.size b4 b6 (b6 + 1) DD s z8 W) (first | exact HF.out | exact HFd.out | exact HF6.out)
        (first | (go_at_call 59; refine (shape_distance.cells _ _ _ _ _ _ _ _ _ _ _ _ _ _ _ _ HDS.out (by first | exact HRC.out | exact HRS.out) _).mono ?_; rintro e w6 ⟨rfl, hb_⟩; have HB6 := Aside0.mk (show Below w.heap.size w w6 from (by first | exact below_step HB6.out hb_ | exact below_step HBd.out hb_)); have HF6 := Aside0.mk (show FS w.heap.size b4 b6 (b6 + 1) DD s z8 w6 from (by first | exact HF6.out.later hb_ | exact HFd.out.later hb_)); clear hb_))
      have n2 : w.heap.size ≠ b6 + 1 := by have := HLT3.out; omega
      have n4 : b4 ≠ b6 + 1 := by have := HLT3.out; omega
      have n6 : b6 ≠ b6 + 1 := by omega
      clear fd0 fd1 fd2 fd3 fd4 fd5 fd6 fd7 fp0 fp1 fp2 fp3 fp4 fp5 fp6 fp7 ft0 ft1 ft2 ft3 ft4 ft5 ft6 ft7 fs0
      have hcs : w6.cell? ⟨b6 + 1, 0, none⟩ = some (.int .i64 s) := by rw [blk_cell HF6.out.s]; rfl
      have hof : w6.frozen? ⟨b6 + 1, 0, none⟩ = false := blk_frozen HF6.out.s 0
      rw [HDD.out] at HBS
      generalize far [d0, d1, d2, d3, d4, d5, d6, d7] [p0, p1, p2, p3, p4, p5, p6, p7] = fp at HBS ⊢
      generalize far [d0, d1, d2, d3, d4, d5, d6, d7] [t0, t1, t2, t3, t4, t5, t6, t7] = ft at HBS ⊢
      obtain ⟨g0, rfl⟩ : ∃ g0, gk = g0 + 1 := ⟨gk - 1, by have := HG.out; omega⟩
      by_cases hlt : fp < ft
      · have HFz := Aside0.mk (HF6.out.setS n2 n4 n6 c)
        have HBz := Aside0.mk (HB6.out.setCell (p := ⟨b6 + 1, 0, none⟩) (by have := HLT3.out; dsimp; omega) (.int .i64 (c : Int)))
        have hb' := HBS.out
        rw [if_pos hlt] at hb'
        have HBT := Aside0.mk hb'
        clear hb' n2 n4 n6
        go_wp2
        go_roundg g0
        case measure => omega
        case rel => exact ⟨c + 1, by first | rfl | (congr 1; push_cast; rfl), ⟨by have := HG.out; omega⟩, ⟨by rw [← HDD.out] at HBT; rw [HBT.out]; exact HFz.out⟩, HBz⟩
      · have hb' := HBS.out
        rw [if_neg hlt] at hb'
        have HBT := Aside0.mk hb'
        clear hb' n2 n4 n6 hcs hof
        go_wp2
        go_roundg g0
        case measure => omega
        case rel => exact ⟨c + 1, by first | rfl | (congr 1; push_cast; rfl), ⟨by have := HG.out; omega⟩, ⟨by rw [← HDD.out] at HBT; rw [HBT.out]; exact HF6.out⟩, HB6⟩
    · obtain rfl : c = 16 := by have := HG.out; omega
      have hsl := bestUpto_le DD 16 (by omega)
      obtain ⟨s, hs⟩ : ∃ s, s = bestUpto DD 16 := ⟨_, rfl⟩
      rw [← hs] at HF hsl
      have HSE := Aside0.mk hs
      have hs0 : (0 : Int) ≤ s := by omega
      have hs16 : (s : Int) < 16 := by omega
      obtain ⟨t0, t1, t2, t3, t4, t5, t6, t7, ht⟩ := eight (rowOf_small s (by omega)).1
      have HT := Aside0.mk ht
      have fs0 : wr.cell? ⟨b6 + 1, 0, none⟩ = some (.int .i64 s) := by rw [blk_cell HF.out.s]; rfl
      have ft0 : wr.cell? ⟨b6, s * 8, none⟩ = some (.int .i64 t0) := HF.out.cellK s (by omega) 0 (by rw [ht]; rfl)
      have ft1 : wr.cell? ⟨b6, s * 8 + 1, none⟩ = some (.int .i64 t1) := HF.out.cellK s (by omega) 1 (by rw [ht]; rfl)
      have ft2 : wr.cell? ⟨b6, s * 8 + 2, none⟩ = some (.int .i64 t2) := HF.out.cellK s (by omega) 2 (by rw [ht]; rfl)
      have ft3 : wr.cell? ⟨b6, s * 8 + 3, none⟩ = some (.int .i64 t3) := HF.out.cellK s (by omega) 3 (by rw [ht]; rfl)
      have ft4 : wr.cell? ⟨b6, s * 8 + 4, none⟩ = some (.int .i64 t4) := HF.out.cellK s (by omega) 4 (by rw [ht]; rfl)
      have ft5 : wr.cell? ⟨b6, s * 8 + 5, none⟩ = some (.int .i64 t5) := HF.out.cellK s (by omega) 5 (by rw [ht]; rfl)
      have ft6 : wr.cell? ⟨b6, s * 8 + 6, none⟩ = some (.int .i64 t6) := HF.out.cellK s (by omega) 6 (by rw [ht]; rfl)
      have ft7 : wr.cell? ⟨b6, s * 8 + 7, none⟩ = some (.int .i64 t7) := HF.out.cellK s (by omega) 7 (by rw [ht]; rfl)
      have HRS := Aside0.mk (rowS s (by omega))
      rw [ht] at HRS
      have HRI := Aside0.mk (index_arr [t0, t1, t2, t3, t4, t5, t6, t7] rfl)
      have HRE := Aside0.mk (fun (b : Nat) (h : b < 8) => restL_at DD s h)
      have HRL := Aside0.mk (restL_length DD s)
      obtain ⟨RR, hRR⟩ : ∃ RR, RR = restL DD s := ⟨_, rfl⟩
      rw [← hRR] at HRE HRL
      have hRR0 := Aside0.mk hRR
      clear hRR
      rw [ht] at HRE
      clear ht hs
      go_wp2
      clear ft0 ft1 ft2 ft3 ft4 ft5 ft6 ft7 fs0
      go_loopg [9, 10, 43, 44, 45, 46, 47, 48, 49, 50, 51, 52, 53, 54, 55, 56, 57, 58] 8 (fun kq v9 v10 v43 v44 v45 v46 v47 v48 v49 v50 v51 v52 v53 v54 v55 v56 v57 v58 wx => ∃ j : Nat, v43 = .int .i64 (j : Int) ∧ Aside0 (kq + j = 8) ∧ Aside0 (FS w.heap.size b4 b6 (b6 + 1) DD s (RR.take j ++ z8.drop j) wx) ∧ Aside0 (Below w.heap.size w wx))
      case atStart => exact ⟨0, rfl, ⟨rfl⟩, ⟨HF.out⟩, ⟨HB.out⟩⟩
      case round =>
        clear HF HB HG
        obtain ⟨j, rfl, HG, HF, HB⟩ := hrel
        by_cases hj : j < 8
        · have hj0 : (0 : Int) ≤ j := by omega
          have hj8 : (j : Int) < 8 := by omega
          have hx := fun w_ => HRI.out (j : Int) hj0 hj8 w_
          simp only [arrI, nums, List.map] at hx
          simp only [Int.toNat_natCast] at hx
          have hre := HRE.out j hj
          have hxb := HRS.out.2 j
          generalize [t0, t1, t2, t3, t4, t5, t6, t7].getD j 0 = x_ at hx hre hxb
          have hyb := HDS2.out.2 j
          have hy := nums_at HF.out.d (i := j) (by rw [HDS2.out.1]; exact hj)
          generalize DD.getD j 0 = y at hy hre hyb
          have hoc : wr.cell? ⟨b6 + 1, 1 + j, none⟩ = some (.int .i64 ((RR.take j ++ z8.drop j).getD j 0)) := by
            rw [blk_cell HF.out.s, Nat.add_comm]
            exact cons_at (by rw [List.length_append, List.length_take, List.length_drop, HRL.out]; show j < min j 8 + (8 - j); omega)
          have hof : wr.frozen? ⟨b6 + 1, 1 + j, none⟩ = false := blk_frozen HF.out.s _
          have hw1 : IntKind.i64.wrap (y - x_) = y - x_ := by rw [i64_w]; unfold wrap64; omega
          have hw2 : IntKind.i64.wrap (y - x_ + 64) = y - x_ + 64 := by rw [i64_w]; unfold wrap64; omega
          have HREJ := Aside0.mk hre
          have HJ := Aside0.mk hj
          clear hre
          obtain ⟨rv, hrv⟩ : ∃ rv, rv = RR.getD j 0 := ⟨_, rfl⟩
          have HRV := Aside0.mk hrv
          have HCL := Aside0.mk (show fix_Clip.f ((y - x_ + 64) / 128) (-4) 3 = some rv from by rw [hrv, HREJ.out]; exact clip_eq _)
          clear hrv
          go_wp2_with (first | (go_at_call 60; refine (fix_Clip.calls ((y - x_ + 64) / 128) (-4) 3 rv _ HCL.out).mono ?_; rintro e w8 ⟨rfl, hb_⟩; obtain ⟨q8, hq8⟩ := hb_.out; have HF8 := Aside0.mk (show FS w.heap.size b4 b6 (b6 + 1) DD s (RR.take j ++ z8.drop j) w8 from (by rw [hq8]; exact HF.out.later (pw_below_drewN (Below.refl _ _) _))); have HB8 := Aside0.mk (show Below w.heap.size w w8 from (by rw [hq8]; exact pw_below_drewN HB.out _)); have hoc8 : w8.cell? ⟨b6 + 1, 1 + j, none⟩ = some (.int .i64 ((RR.take j ++ z8.drop j).getD j 0)) := (by rw [hq8]; exact hoc); have hof8 : w8.frozen? ⟨b6 + 1, 1 + j, none⟩ = false := blk_frozen HF8.out.s _; clear hb_ hq8))
          obtain ⟨g0, rfl⟩ : ∃ g0, gk = g0 + 1 := ⟨gk - 1, by have := HG.out; have := HJ.out; omega⟩
          go_roundg g0
          case measure => omega
          case rel => exact ⟨j + 1, by first | rfl | (congr 1; push_cast; rfl), ⟨by have := HG.out; omega⟩, ⟨by rw [← mix_set HJ.out HRL.out rfl, ← HRV.out]; exact HF8.out.setR (by have := HLT3.out; omega) (by have := HLT3.out; omega) (by omega) j _⟩, ⟨HB8.out.setCell (p := ⟨b6 + 1, 1 + j, none⟩) (by have := HLT3.out; dsimp; omega) _⟩⟩
        · obtain rfl : j = 8 := by have := HG.out; omega
          have HF2 := Aside0.mk (show FS w.heap.size b4 b6 (b6 + 1) DD s RR wr from by have h1 := HF.out; rw [show z8.drop 8 = [] from rfl, List.append_nil, List.take_of_length_le (by rw [HRL.out]; exact Nat.le_refl _)] at h1; exact h1)
          clear HF HRE
          have HRR := Aside0.mk hRR0.out
          obtain ⟨r0, r1, r2, r3, r4, r5, r6, r7, rfl⟩ := eight HRL.out
          have hx : wr.heap[b6 + 1]? = some (.cells #[.int .i64 s, .int .i64 r0, .int .i64 r1, .int .i64 r2, .int .i64 r3, .int .i64 r4, .int .i64 r5, .int .i64 r6, .int .i64 r7] 51 (0, 0)) := HF2.out.s
          have c0 := fun j v (hj : (#[Value.int .i64 s, .int .i64 r0, .int .i64 r1, .int .i64 r2, .int .i64 r3, .int .i64 r4, .int .i64 r5, .int .i64 r6, .int .i64 r7] : Array Value)[j]? = some v) => (blk_cell hx j).trans hj
          have x0 := c0 0 _ rfl; have x1 := c0 1 _ rfl; have x2 := c0 2 _ rfl; have x3 := c0 3 _ rfl; have x4 := c0 4 _ rfl; have x5 := c0 5 _ rfl; have x6 := c0 6 _ rfl; have x7 := c0 7 _ rfl; have x8 := c0 8 _ rfl
          have hzb : wr.heap[w.heap.size]? = some (.cells (.int .i64 0 :: nums .i64 z8).toArray 51 (0, 0)) := HF2.out.z
          have HZB := Aside0.mk hzb
          clear c0 hx hzb
          go_wp2_with (first | (refine wpList_store_row rfl 51 _ _ rfl w.heap.size #[.int .i64 s, .int .i64 r0, .int .i64 r1, .int .i64 r2, .int .i64 r3, .int .i64 r4, .int .i64 r5, .int .i64 r6, .int .i64 r7] rfl rfl 51 (.int .i64 0 :: nums .i64 z8).toArray HZB.out (by kernel_rfl) (by kernel_rfl) (by kernel_rfl) ?_))
          have hz := setRow_heap wr w.heap.size (.int .i64 0 :: nums .i64 z8).toArray #[.int .i64 s, .int .i64 r0, .int .i64 r1, .int .i64 r2, .int .i64 r3, .int .i64 r4, .int .i64 r5, .int .i64 r6, .int .i64 r7] 51 (0, 0) HZB.out
          have HBZ := Aside0.mk (below_setRow HB.out (Nat.le_refl _) #[.int .i64 s, .int .i64 r0, .int .i64 r1, .int .i64 r2, .int .i64 r3, .int .i64 r4, .int .i64 r5, .int .i64 r6, .int .i64 r7])
          generalize wr.setRow w.heap.size #[.int .i64 s, .int .i64 r0, .int .i64 r1, .int .i64 r2, .int .i64 r3, .int .i64 r4, .int .i64 r5, .int .i64 r6, .int .i64 r7] = wz at hz HBZ ⊢
          have c0 := fun j v (hj : (#[Value.int .i64 s, .int .i64 r0, .int .i64 r1, .int .i64 r2, .int .i64 r3, .int .i64 r4, .int .i64 r5, .int .i64 r6, .int .i64 r7] : Array Value)[j]? = some v) => (blk_cell hz j).trans hj
          have z0 := c0 0 _ rfl; have z1 := c0 1 _ rfl; have z2 := c0 2 _ rfl; have z3 := c0 3 _ rfl; have z4 := c0 4 _ rfl; have z5 := c0 5 _ rfl; have z6 := c0 6 _ rfl; have z7 := c0 7 _ rfl; have z8_ := c0 8 _ rfl
          clear c0 hz
          exact bodyPost_ret (v := .tuple #[.agg #[.int .i64 s, .int .i64 r0, .int .i64 r1, .int .i64 r2, .int .i64 r3, .int .i64 r4, .int .i64 r5, .int .i64 r6, .int .i64 r7], .int .i64 0]) (by simp [results, Try.results25, go_sem, z0, z1, z2, z3, z4, z5, z6, z7, z8_]) rfl ⟨by rw [← HDD.out, ← HSE.out, ← HRR.out]; rfl, HBZ.out⟩
end Go.Proofs.Ytblehkoonajofaa.PShape
