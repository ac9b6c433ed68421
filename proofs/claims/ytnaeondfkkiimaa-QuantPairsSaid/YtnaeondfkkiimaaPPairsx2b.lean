/- Quant: pairs of two planes, walked. -/
import Derived.Test.YtnaeondfkkiimaaPPairsx2p
import Derived.Test.YtnaeondfkkiimaaRowAt
import Derived.StillTailTactics
import Derived.Deep.RegionHeld3
import Derived.Deep.AppendLies
import Derived.Deep.DeepCutAuto
import Derived.Deep.CutBlock
import Derived.Deep.DrawnRows
import Derived.Deep.RegionLaw
namespace Go.Proofs.Ytnaeondfkkiimaa.PPairs
open Go.RowKit Go.Proofs.YtnaeondfkkiimaaW.PrintWords Go.Proofs.YtnaeondfkkiimaaW.PrintLast Go.Proofs.YtnaeondfkkiimaaW.PrintMore Go.Proofs.Ytnaeondfkkiimaa.RowAt
attribute [local go_sem ↓] Go.wp_at_zero Go.wp_at_succ
attribute [local go_sem] max2_int min2_int max_two min_two max_three min_three max_four min_four   -- for this text's walks alone
set_option linter.unusedVariables false
set_option linter.unusedSimpArgs false
set_option maxHeartbeats 8000000 in
set_option maxRecDepth 100000 in
theorem pairs_middle (A0 : Option Addr) (c0 : Nat) (l : List (List Int)) (A1 : Option Addr) (c1 : Nat) (r : List (List Int)) (w : World) (hr0 : Kd.C (Kd.slice 21 (Kd.int .i32)) w A0 l.length l) (hc0 : l.length ≤ c0) (hr1 : Kd.C (Kd.slice 21 (Kd.int .i32)) w A1 r.length r) (hc1 : r.length ≤ c1)
    (b : Int) (hb0 : b ≠ 0) (hbl : quant_bands.f 1000 l = some b) (hbr : quant_bands.f 1000 r = some b) (hlr : r.length = l.length) (hn : l.length ≤ 1000) (hn0 : 0 < l.length) (hrow : ∀ i, i < l.length → (r.getD i []).length = (l.getD i []).length ∧ (l.getD i []).length ≤ 1000)
    (g h : Int → Int → Int) (hT : ∀ i k, i < l.length → k < (l.getD i []).length → quant_Middle_clo1.f ((l.getD i []).getD k 0) ((r.getD i []).getD k 0) = some (g ((l.getD i []).getD k 0) ((r.getD i []).getD k 0), h ((l.getD i []).getD k 0) ((r.getD i []).getD k 0))) :
    Calls Try.prog 71 #[.slice A0 l.length c0, .slice A1 r.length c1, .func (.func 72) #[] #[]] w (PairsPost w l r g h) := by
  have HR0 := Aside0.mk hr0
  have HR1 := Aside0.mk hr1
  have HC0 := Aside0.mk hc0
  have HC1 := Aside0.mk hc1
  have HBL := Aside0.mk hbl
  have HBR := Aside0.mk hbr
  have HLR := Aside0.mk hlr
  have HN := Aside0.mk (And.intro hn hn0)
  have HROW := Aside0.mk hrow
  have HT := Aside0.mk hT
  have hb0b : (b == 0) = false := by simp [hb0]
  have hbb : (b != b) = false := by simp
  have hl1 : ((l.length : Int) != (r.length : Int)) = false := by rw [hlr]; simp
  have hl2 : ((l.length : Int) != (l.length : Int)) = false := by simp
  have hmk : ∀ W : World, (Instr.makeSlice 61 (.int .i64 (l.length : Int)) (.int .i64 (l.length : Int))).run Try.prog W = .ok (.slice (some ⟨W.heap.size, 0, none⟩) l.length l.length) (W.alloc (.cells (madeCells #[.slice none 0 0] l.length) 55)) := print_make_of 61 55 (.slice none 0 0) 24 Try.underlying61 info_55 rfl (by decide) l.length (by omega)
  clear hr0 hc0 hr1 hc1 hbl hbr hb0 hn hn0 hrow hT hlr
  go_enter Try.func71, Try.ntmps71
  have HB := Aside0.mk (Below.refl w.heap.size w)
  go_wp2_with (first | (go_at_call 70; (first | (with_reducible refine (quant_bands.calls 1000 A0 c0 l b _ (Kd.C_below HR0.out HB.out) HC0.out HBL.out).mono ?_) | (with_reducible refine (quant_bands.calls 1000 A1 c1 r b _ (Kd.C_below HR1.out HB.out) HC1.out HBR.out).mono ?_)); rintro e w1 ⟨rfl, hd_⟩; obtain ⟨q8, hq8⟩ := hd_; have n_ := Aside0.mk (show Below w.heap.size w w1 from (by rw [hq8]; exact pw_below_drewN HB.out _)); clear HB hq8; have HB := n_; clear n_))
  go_cut [9, 10] (fun s9 s10 wx => ∃ X Y : Nat, s9 = .slice (some ⟨X, 0, none⟩) l.length l.length ∧ s10 = .slice (some ⟨Y, 0, none⟩) l.length l.length ∧ Aside0 (PQ w X Y l.length (fun _ => .slice none 0 0) (fun _ => .slice none 0 0) (fun _ => .slice none 0 0) (fun _ => .slice none 0 0) (stR (fun i => mapR g (l.getD i []) (r.getD i [])) 0 0) (stR (fun i => mapR h (l.getD i []) (r.getD i [])) 0 0) wx))
  case first =>
    have HB2 := Aside0.mk (below_drew HB.out)
    go_region_with (fail)
    all_goals
      go_wp2_with fail
      go_meet
    · exact ⟨_, _, rfl, rfl, ⟨by rw [stR_start, stR_start]; exact PQ.start HB2.out _ (.inl ⟨rfl, rfl⟩)⟩⟩
    · exact ⟨_, _, rfl, rfl, ⟨by rw [stR_start, stR_start]; exact PQ.start HB2.out _ (.inr ⟨rfl, rfl⟩)⟩⟩
  case rest =>
    clear HB
    obtain ⟨X, Y, rfl, rfl, HP0⟩ := hcut
    go_wp2
    obtain ⟨F, hF⟩ : ∃ F, F = fun i => mapR g (l.getD i []) (r.getD i []) := ⟨_, rfl⟩
    obtain ⟨G, hG⟩ : ∃ G, G = fun i => mapR h (l.getD i []) (r.getD i []) := ⟨_, rfl⟩
    rw [← hF, ← hG] at HP0
    have HFE := Aside0.mk hF
    have HGE := Aside0.mk hG
    have HFL := Aside0.mk (show ∀ i, (F i).length = (l.getD i []).length from fun i => by rw [hF]; exact mapR_length _ _ _)
    have HGL := Aside0.mk (show ∀ i, (G i).length = (l.getD i []).length from fun i => by rw [hG]; exact mapR_length _ _ _)
    have HFA := Aside0.mk (show ∀ i k, k < (l.getD i []).length → (F i).getD k 0 = g ((l.getD i []).getD k 0) ((r.getD i []).getD k 0) from fun i k hk => by rw [hF]; exact mapR_at _ _ _ hk)
    have HGA := Aside0.mk (show ∀ i k, k < (l.getD i []).length → (G i).getD k 0 = h ((l.getD i []).getD k 0) ((r.getD i []).getD k 0) from fun i k hk => by rw [hG]; exact mapR_at _ _ _ hk)
    clear hF hG
    go_loopg [11, 12, 13, 14, 15, 16, 42, 43, 44, 45, 46, 47, 48, 49, 50, 51, 52, 53, 54, 55, 56, 57, 58, 59, 60, 61, 62, 63, 64, 65, 66, 67, 68, 69, 70, 71, 72, 73, 74, 75, 76, 77, 78, 79, 80, 81, 82, 83, 84, 85, 86, 87, 88] l.length (fun kq v11 v12 v13 v14 v15 v16 v42 v43 v44 v45 v46 v47 v48 v49 v50 v51 v52 v53 v54 v55 v56 v57 v58 v59 v60 v61 v62 v63 v64 v65 v66 v67 v68 v69 v70 v71 v72 v73 v74 v75 v76 v77 v78 v79 v80 v81 v82 v83 v84 v85 v86 v87 v88 wx => ∃ (i : Nat) (va vb : Nat → Value), v42 = .int .i64 (i : Int) ∧ Aside0 (kq + i = l.length) ∧ Aside0 (PQ w X Y l.length va vb va vb (stR F i 0) (stR G i 0) wx))
    case atStart => exact ⟨0, _, _, rfl, ⟨rfl⟩, HP0⟩
    case round =>
      clear HP0
      obtain ⟨i, va, vb, rfl, HG1, HP⟩ := hrel
      by_cases hi : i < l.length
      · have hi0 : (0 : Int) ≤ i := by omega
        have hin : (i : Int) < (l.length : Int) := by omega
        have hir : (i : Int) < (r.length : Int) := by have := HLR.out; omega
        have hir' : i < r.length := by have := HLR.out; omega
        obtain ⟨ad, B0, d0, eA, hclw, hcd0, hrl⟩ := row_at HR0.out i hi
        subst eA
        obtain ⟨adr, R0, d2, eR, hcrw, _, hrr⟩ := row_at HR1.out i hir'
        subst eR
        have hcl := (HP.out.be.cell (World.block_lt_of_cell? _ _ hclw)).trans hclw
        have hro := HROW.out i hi
        have HRW := Aside0.mk hro
        have HII := Aside0.mk hi
        have hwi : IntKind.i64.wrap ((i : Int) + 1) = ((i + 1 : Nat) : Int) := by rw [i64_w]; unfold wrap64; have := HN.out; omega
        rw [hro.1] at hrr hcrw
        have HRL := Aside0.mk hrl
        have HRR := Aside0.mk hrr
        have HCR := Aside0.mk hcrw
        obtain ⟨m, hm⟩ : ∃ m, m = (l.getD i []).length := ⟨_, rfl⟩
        have HME := Aside0.mk hm
        rw [← hm] at hcl HRL HRW HRR HCR
        obtain ⟨g0, rfl⟩ : ∃ g0, gk = g0 + 1 := ⟨gk - 1, by have := HG1.out; omega⟩
        clear hrl hro hm hi hcd0 hrr hcrw hclw
        go_wp2
        go_loopg [13, 14, 15, 16, 49, 50, 51, 52, 53, 54, 55, 56, 57, 58, 59, 60, 61, 62, 63, 64, 65, 66, 67, 68, 69, 70, 71, 72, 73, 74, 75, 76, 77, 78, 79, 80, 81, 82, 83, 84, 85, 86, 87] m (fun kq v13 v14 v15 v16 v49 v50 v51 v52 v53 v54 v55 v56 v57 v58 v59 v60 v61 v62 v63 v64 v65 v66 v67 v68 v69 v70 v71 v72 v73 v74 v75 v76 v77 v78 v79 v80 v81 v82 v83 v84 v85 v86 v87 wx => ∃ (k : Nat) (va vb : Nat → Value), v49 = .int .i64 (k : Int) ∧ Aside0 (kq + k = m) ∧ Aside0 (PQ w X Y l.length va vb va vb (stR F i k) (stR G i k) wx))
        case atStart => exact ⟨0, va, vb, rfl, ⟨rfl⟩, ⟨HP.out⟩⟩
        case round =>
          clear HP hcl
          obtain ⟨k, va, vb, rfl, HG2, HP⟩ := hrel
          by_cases hk : k < m
          · have hk0 : (0 : Int) ≤ k := by omega
            have hkm : (k : Int) < (m : Int) := by omega
            obtain ⟨adx, eX, hxc⟩ := (HRL.out.below HP.out.be).2.2 (by omega)
            subst eX
            have hx := hxc k hk
            have hcr := (HP.out.be.cell (World.block_lt_of_cell? _ _ HCR.out)).trans HCR.out
            obtain ⟨ady, eY, hyc⟩ := (HRR.out.below HP.out.be).2.2 (by omega)
            subst eY
            have hy := hyc k hk
            have htt := HT.out i k HII.out (by rw [← HME.out]; exact hk)
            have hfa := HFA.out i k (by rw [← HME.out]; exact hk)
            have hga := HGA.out i k (by rw [← HME.out]; exact hk)
            generalize (l.getD i []).getD k 0 = a at hx htt hfa hga
            generalize (r.getD i []).getD k 0 = b2 at hy htt hfa hga
            generalize g a b2 = x at htt hfa
            generalize h a b2 = y at htt hga
            have HTT := Aside0.mk htt
            have HFX := Aside0.mk hfa
            have HGY := Aside0.mk hga
            have HKK := Aside0.mk hk
            have hwk : IntKind.i64.wrap ((k : Int) + 1) = ((k + 1 : Nat) : Int) := by rw [i64_w]; unfold wrap64; have := HRW.out.2; omega
            obtain ⟨g1, rfl⟩ : ∃ g1, gk = g1 + 1 := ⟨gk - 1, by have := HG2.out; omega⟩
            clear hk htt hfa hga hxc hyc
            go_upto_block 3 with (fail)
            go_cut [49] (fun s49 wx => s49 = .int .i64 (k : Int) ∧ Aside0 (∃ va' vb', PQ w X Y l.length va' vb' va' vb' (stR F i (k + 1)) (stR G i (k + 1)) wx))
            case first =>
              go_wp2_with (first | (go_at_call 72; refine (quant_Middle_clo1.calls a b2 x y _ HTT.out).mono ?_; rintro e w4 ⟨rfl, hd_⟩; obtain ⟨q8, hq8⟩ := hd_; have HP4 := Aside0.mk (HP.out.later (show Below wr.heap.size wr w4 from (by rw [hq8]; exact pw_below_drewN (Below.refl _ _) _))); clear hq8))
              have hxa := HP4.out.cellA HII.out
              have hxb := HP4.out.cellB HII.out
              have HPd := Aside0.mk (HP4.out.later (below_drew (Below.refl w4.heap.size w4)))
              have hxad : w4.drew.cell? ⟨X, i, none⟩ = some (va i) := hxa
              have hxbd : w4.drew.cell? ⟨Y, i, none⟩ = some (vb i) := hxb
              have HPa := Aside0.mk (HPd.out.two x y).1
              have HPc := Aside0.mk (HPd.out.two x y).2
              have HPb := Aside0.mk (HPd.out.two y x).2
              have HPq := Aside0.mk (HPd.out.two y x).1
              have xa1 := HPa.out.cellA HII.out; have xa2 := HPb.out.cellA HII.out; have xa3 := HPc.out.cellA HII.out; have xa4 := HPq.out.cellA HII.out
              have xb1 := HPa.out.cellB HII.out; have xb2 := HPb.out.cellB HII.out; have xb3 := HPc.out.cellB HII.out; have xb4 := HPq.out.cellB HII.out
              have ya1 : ((w4.alloc (.cells #[.int .i32 x] 21)).drew).cell? ⟨X, i, none⟩ = some (va i) := xa1; have yb1 : ((w4.alloc (.cells #[.int .i32 x] 21)).drew).cell? ⟨Y, i, none⟩ = some (vb i) := xb1
              have ya2 : (((w4.alloc (.cells #[.int .i32 y] 21)).alloc (.cells #[.int .i32 x] 21)).drew).cell? ⟨X, i, none⟩ = some (va i) := xa2; have yb2 : (((w4.alloc (.cells #[.int .i32 y] 21)).alloc (.cells #[.int .i32 x] 21)).drew).cell? ⟨Y, i, none⟩ = some (vb i) := xb2
              have ya3 : (((w4.alloc (.cells #[.int .i32 x] 21)).alloc (.cells #[.int .i32 y] 21)).drew).cell? ⟨X, i, none⟩ = some (va i) := xa3; have yb3 : (((w4.alloc (.cells #[.int .i32 x] 21)).alloc (.cells #[.int .i32 y] 21)).drew).cell? ⟨Y, i, none⟩ = some (vb i) := xb3
              have ya4 : ((w4.alloc (.cells #[.int .i32 y] 21)).drew).cell? ⟨X, i, none⟩ = some (va i) := xa4; have yb4 : ((w4.alloc (.cells #[.int .i32 y] 21)).drew).cell? ⟨Y, i, none⟩ = some (vb i) := xb4
              have HCX := Aside0.mk (two_cells w4.drew x y)
              have HCY := Aside0.mk (two_cells w4.drew y x)
              have HTA := Aside0.mk (show stR F i k i = (F i).take k from stR_at F i k)
              have HTB := Aside0.mk (show stR G i k i = (G i).take k from stR_at G i k)
              have HLA := Aside0.mk (show ((F i).take k).length ≤ 100000 from by rw [List.length_take, HFL.out, ← HME.out]; have := HRW.out.2; omega)
              have HLB := Aside0.mk (show ((G i).take k).length ≤ 100000 from by rw [List.length_take, HGL.out, ← HME.out]; have := HRW.out.2; omega)
              have HNF := Aside0.mk (stR_next F i k (x := x) (by rw [HFL.out, ← HME.out]; exact HKK.out) HFX.out.symm)
              have HNG := Aside0.mk (stR_next G i k (x := y) (by rw [HGL.out, ← HME.out]; exact HKK.out) HGY.out.symm)
              go_region_law (first | (refine step_pushc (w0 := w) (by rfl) (.tmp 74) (.tmp 76) (by rfl) (va i) ((F i).take k) x (by rfl) (by rfl) (by first | exact HPa.out.rowA HII.out HTA.out | exact HPb.out.rowA HII.out HTA.out | exact HPc.out.rowA HII.out HTA.out) (by first | exact HCX.out.1 | exact HCX.out.2.1 | exact HCX.out.2.2) (by first | exact HPa.out.be | exact HPb.out.be | exact HPc.out.be) (by first | exact below_size HPa.out.be | exact below_size HPb.out.be | exact below_size HPc.out.be) HLA.out ?_; intro A5 n5 c5 w5 q1 q2 q3 q4; have HP5a : Aside0 (PQ w X Y l.length va vb (upd va i (Value.slice A5 n5 c5)) vb (upd (stR F i k) i ((F i).take k ++ [x])) (stR G i k) w5) := ⟨by first | exact HPa.out.growA HII.out q1 q2 q3 q4 | exact HPb.out.growA HII.out q1 q2 q3 q4 | exact HPc.out.growA HII.out q1 q2 q3 q4⟩; have HP5b := Aside0.mk (HP5a.out.later (below_alloc (Below.refl w5.heap.size w5) (.cells #[.int .i32 y] 21))); have hxb5 := HP5a.out.cellB HII.out; have hxb6 := HP5b.out.cellB HII.out; (try have hy5 : w5.cell? ⟨w4.heap.size + 1, 0, none⟩ = some (.int .i32 y) := far_cell q3 (HPd.out.rowA HII.out HTA.out) HCY.out.2.1 (Nat.le_succ _)); (try have hy5 : w5.cell? ⟨w4.heap.size, 0, none⟩ = some (.int .i32 y) := far_cell q3 (HPd.out.rowA HII.out HTA.out) HCY.out.2.2 (Nat.le_refl _)); clear q1 q2 q3 q4) | (refine step_pushc (w0 := w) (by rfl) (.tmp 81) (.tmp 83) (by rfl) (vb i) ((G i).take k) y (by rfl) (by rfl) (by first | exact HP5a.out.rowB HII.out HTB.out | exact HP5b.out.rowB HII.out HTB.out) (by first | exact hy5 | exact (blk_cell (blk_new w5 _) 0).trans rfl) (by first | exact HP5a.out.be | exact HP5b.out.be) (by first | exact below_size HP5a.out.be | exact below_size HP5b.out.be) HLB.out ?_; intro A6 n6 c6 w6 q1 q2 q3 q4; have HP6 : Aside0 (PQ w X Y l.length va vb (upd va i (Value.slice A5 n5 c5)) (upd vb i (Value.slice A6 n6 c6)) (upd (stR F i k) i ((F i).take k ++ [x])) (upd (stR G i k) i ((G i).take k ++ [y])) w6) := ⟨by first | exact HP5a.out.growB HII.out q1 q2 q3 q4 | exact HP5b.out.growB HII.out q1 q2 q3 q4⟩; have HP7 := Aside0.mk (HP6.out.setA i (Value.slice A5 n5 c5)); have HP5 : Aside0 (PQ w X Y l.length (upd va i (Value.slice A5 n5 c5)) (upd vb i (Value.slice A6 n6 c6)) (upd va i (Value.slice A5 n5 c5)) (upd vb i (Value.slice A6 n6 c6)) (stR F i (k + 1)) (stR G i (k + 1)) ((w6.setCell ⟨X, i, none⟩ (Value.slice A5 n5 c5)).setCell ⟨Y, i, none⟩ (Value.slice A6 n6 c6))) := ⟨by rw [← HNF.out, ← HNG.out]; exact HP7.out.setB i (Value.slice A6 n6 c6)⟩; have hcx := HP6.out.cellA HII.out; have hfx : w6.frozen? ⟨X, i, none⟩ = false := blk_frozen HP6.out.xa _; have hcy := HP7.out.cellB HII.out; have hfy : (w6.setCell ⟨X, i, none⟩ (Value.slice A5 n5 c5)).frozen? ⟨Y, i, none⟩ = false := blk_frozen HP7.out.ya _; clear q1 q2 q3 q4))
              all_goals
                go_wp2_with fail
                go_meet
                exact ⟨rfl, ⟨_, _, HP5.out⟩⟩
            case rest =>
              obtain ⟨rfl, HQ⟩ := hcut
              obtain ⟨va', vb', hq⟩ := HQ.out
              have HQ2 := Aside0.mk hq
              clear hq HQ
              go_wp2
              go_roundg g1
              case measure => omega
              case rel => exact ⟨k + 1, va', vb', by first | rfl | (congr 1; push_cast; rfl), ⟨by have := HG2.out; omega⟩, HQ2⟩
          · obtain rfl : k = m := by have := HG2.out; omega
            have hkm : ¬ ((k : Int) < (k : Int)) := by omega
            have HP2 := Aside0.mk (show PQ w X Y l.length va vb va vb (stR F (i + 1) 0) (stR G (i + 1) 0) wr from by have h1 := HP.out; rw [stR_row F i (by rw [HFL.out, ← HME.out]; exact Nat.le_refl _), stR_row G i (by rw [HGL.out, ← HME.out]; exact Nat.le_refl _)] at h1; exact h1)
            clear hk
            go_wp2
            go_roundg g0
            case measure => omega
            case rel => exact ⟨i + 1, va, vb, by first | rfl | (congr 1; push_cast; rfl), ⟨by have := HG1.out; omega⟩, HP2⟩
      · obtain rfl : i = l.length := by have := HG1.out; omega
        have hin : ¬ ((l.length : Int) < (l.length : Int)) := by omega
        clear hi
        go_wp2
        exact bodyPost_ret (v := .tuple #[.slice (some ⟨X, 0, none⟩) l.length l.length, .slice (some ⟨Y, 0, none⟩) l.length l.length, .int .i64 0]) (by simp [results, Try.results71, go_sem]) rfl ⟨X, Y, va, vb, rfl, by rw [← HFE.out, ← HGE.out]; have h1 := HP.out; exact ⟨h1.xa, h1.ya, h1.xy, h1.xb, h1.yb, fun j hj => by have := h1.oa j hj; rwa [stR_end F hj] at this, fun j hj => by have := h1.ob j hj; rwa [stR_end G hj] at this, h1.da, h1.db, h1.dab, h1.be⟩⟩
end Go.Proofs.Ytnaeondfkkiimaa.PPairs
