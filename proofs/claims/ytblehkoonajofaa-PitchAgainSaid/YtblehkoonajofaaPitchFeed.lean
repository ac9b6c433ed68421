/- Pitch: the hunter's call. -/
import Derived.Test.YtblehkoonajofaaPitchRun
import Derived.Test.YtblehkoonajofaaClo
namespace Go.Proofs.Ytblehkoonajofaa.PPitch
open Go.RowKit Go.Proofs.YtblehkoonajofaaW.PrintWords Go.Proofs.YtblehkoonajofaaW.PrintLast Go.Proofs.YtblehkoonajofaaW.PrintMore
attribute [local go_sem] max2_int min2_int max_two min_two max_three min_three max_four min_four   -- for this text's walks alone
set_option linter.unusedVariables false
set_option linter.unusedSimpArgs false
theorem two_new (w : World) (o1 o2 : Obj) : ((w.alloc o1).alloc o2).heap[w.heap.size]? = some o1 ∧ ((w.alloc o1).alloc o2).heap[w.heap.size + 1]? = some o2 := by
  constructor
  · rw [(below_alloc (Below.refl (w.alloc o1).heap.size (w.alloc o1)) o2).block _ (by rw [World.size_alloc]; omega)]; exact heap_alloc_new w o1
  · have h := heap_alloc_new (w.alloc o1) o2
    rwa [World.size_alloc] at h
theorem made_nums (k : IntKind) (m : Nat) : madeCells #[Value.int k 0] m = (nums k (List.replicate m 0)).toArray := by
  apply Array.ext'
  rw [toList_madeCells_one]; simp [nums]
theorem nums_at {w : World} {g ty : Nat} {L : List Int} {k : IntKind} (h : w.heap[g]? = some (.cells (nums k L).toArray ty (0, 0))) {i : Nat} (hi : i < L.length) : w.cell? ⟨g, i, none⟩ = some (.int k (L.getD i 0)) := by
  rw [blk_cell h]
  simp [nums, List.getD_eq_getElem?_getD, List.getElem?_eq_getElem hi]
theorem wrap64_nat1 {n : Nat} (h : n ≤ 1000000) : wrap64 ((n : Int) + 1) = ((n + 1 : Nat) : Int) := by unfold wrap64; omega
/-- What the hunter's best lag is, among the first ones. -/
def pbest (all : List Int) (K : Nat) : Nat → Int × Int
  | 0 => (16, psum all 0 16 K)
  | m + 1 => if (pbest all K m).2 < psum all 0 (17 + m) K then (17 + m, psum all 0 (17 + m) K) else pbest all K m
theorem pbest_lag (all : List Int) (K : Nat) : ∀ m : Nat, 16 ≤ (pbest all K m).1 ∧ (pbest all K m).1 ≤ 16 + m
  | 0 => ⟨by simp [pbest], by simp [pbest]⟩
  | m + 1 => by
    have h := pbest_lag all K m
    unfold pbest
    split
    · dsimp; omega
    · omega
theorem blk_store {w : World} {g ty : Nat} {L : List Int} {k : IntKind} (h : w.heap[g]? = some (.cells (nums k L).toArray ty (0, 0))) (i : Nat) (v : Int) : (w.setCell ⟨g, i, none⟩ (.int k v)).heap[g]? = some (.cells (nums k (L.set i v)).toArray ty (0, 0)) := by
  rw [blk_set h i _]
  congr 2
  simp [nums]
theorem set_next {x : List Int} {n i : Nat} (hi : i < n) (hn : x.length = n) : (x.take i ++ List.replicate (n - i) 0).set i (x.getD i 0) = x.take (i + 1) ++ List.replicate (n - (i + 1)) 0 := by
  have h1 : (x.take i).length = i := by rw [List.length_take]; omega
  obtain ⟨m, hm⟩ : ∃ m, n - i = m + 1 := ⟨n - i - 1, by omega⟩
  rw [hm, List.replicate_succ, List.set_append_right _ _ (by omega), h1, Nat.sub_self, List.set_cons_zero, show n - (i + 1) = m by omega, List.take_add_one, List.getElem?_eq_getElem (by omega), List.getD_eq_getElem?_getD, List.getElem?_eq_getElem (by omega), List.append_assoc]
  rfl
theorem pitch_sum.at (a b : Int) (g K : Nat) (A : Option Addr) (c : Nat) (all : List Int) (w : World) (ha0 : 0 ≤ a) (ha1 : a ≤ 79) (hb0 : 0 ≤ b) (hb1 : b ≤ 79) (hg : w.heap[g]? = some (.cells #[.slice A all.length c] 26 (0, 0))) (hr : ReadsInt w .i64 A all.length all) (hK : all.length = K + 79) (hn : K ≤ 120) :
    Calls Try.prog 48 #[.int .i64 a, .int .i64 b, .pointer (some ⟨g, 0, none⟩)] w fun e w' => e = .returned (.int .i64 (psum all a b K)) ∧ ∃ q, w' = w.drewN q := by
  have h := pitch_sum.calls a b g A all.length c all w ha0 ha1 hb0 hb1 (by rw [blk_cell hg]; rfl) hr (by omega) (by omega)
  rwa [hK, Nat.add_sub_cancel] at h
theorem own_reads' {w : World} {base n c : Nat} {A : Option Addr} {e : TypeId} {k : IntKind} {xs : List Int} (h : w.ownsRow base e 1 (.slice A n c) n (nums k xs)) : ReadsInt w k A n xs := by
  obtain ⟨A', c', e, hr⟩ := own_reads h
  cases e; exact hr
theorem own_cap {w : World} {base n c : Nat} {e : TypeId} {A : Option Addr} {xs : List Value} (h : w.ownsRow base e 1 (.slice A n c) n xs) : n ≤ c := by
  rcases h.2 with ⟨h, _⟩ | ⟨g, cap, cur, h, _, _, hc, _⟩
  · cases h; exact Nat.le_refl _
  · cases h; exact hc
theorem blk_reads {w : World} {g ty : Nat} {L : List Int} {k : IntKind} {n : Nat} (h : w.heap[g]? = some (.cells (nums k L).toArray ty (0, 0))) (hn : L.length = n) (hm : n ≤ 9223372036854775807) : ReadsInt w k (some ⟨g, 0, none⟩) n L :=
  ⟨hn, hm, fun _ => ⟨_, rfl, fun j hj => by rw [add_plain]; exact nums_at h (by omega)⟩⟩
/-- What stands in memory while the hunter hunts. -/
structure FInv (w wx : World) (p g4 gb : Nat) (A1 : Option Addr) (c1 : Nat) (P all : List Int) : Prop where
  pp : Past wx p 86 P
  r4 : wx.heap[g4]? = some (.cells #[.int .i64 0, .int .i64 0] 29 (0, 0))
  bx : wx.heap[gb]? = some (.cells #[.slice A1 all.length c1] 26 (0, 0))
  al : wx.ownsRow w.heap.size 2 1 (.slice A1 all.length c1) all.length (nums .i64 all)
  be : Below w.heap.size w wx
theorem FInv.drewN {w wx : World} {p g4 gb : Nat} {A1 : Option Addr} {c1 : Nat} {P all : List Int} (h : FInv w wx p g4 gb A1 c1 P all) (q : Nat) : FInv w (wx.drewN q) p g4 gb A1 c1 P all :=
  ⟨h.pp, h.r4, h.bx, h.al.kept (grown_of_below (pw_below_drewN (Below.refl _ _) q) none) (by cases Value.ownBlock _ <;> simp), pw_below_drewN h.be q⟩
theorem FInv.keep {w wx wy : World} {p g4 gb : Nat} {A1 : Option Addr} {c1 : Nat} {P all Q : List Int} (h : FInv w wx p g4 gb A1 c1 P all) (hp : p < w.heap.size) (g1 : Past wy p 86 Q) (g2 : Only wx wy p) :
    wy.cell? ⟨gb, 0, none⟩ = some (.slice A1 all.length c1) ∧ wy.heap[g4]? = some (.cells #[.int .i64 0, .int .i64 0] 29 (0, 0)) ∧ Only w wy p := by
  have e1 : gb ≠ p := by intro e; subst e; have h1 := h.pp.1; rw [h.bx] at h1; simp at h1
  have e2 : g4 ≠ p := by intro e; subst e; have h1 := h.pp.1; rw [h.r4] at h1; simp at h1
  refine ⟨by rw [blk_cell ((g2.block gb (blk_lt h.bx) e1).trans h.bx)]; rfl, (g2.block g4 (blk_lt h.r4) e2).trans h.r4, (Only.of_below h.be).trans g2⟩
theorem feed_inv {w wr w1 : World} {p : Nat} {A1 : Option Addr} {c1 : Nat} {P all : List Int} (hp : Past wr p 86 P) (h4 : wr.heap[w.heap.size]? = some (.cells #[.int .i64 0, .int .i64 0] 29 (0, 0))) (hb : Below w.heap.size w wr)
    (g1 : w1.ownsRow wr.heap.size 2 1 (.slice A1 all.length c1) all.length (nums .i64 all)) (g2 : Below wr.heap.size wr w1) : FInv w (w1.alloc (.cells #[.slice A1 all.length c1] 26)) p w.heap.size w1.heap.size A1 c1 P all := by
  have hb3 : Below wr.heap.size wr (w1.alloc (.cells #[.slice A1 all.length c1] 26)) := below_alloc g2 _
  refine ⟨⟨(hb3.block p (blk_lt hp.1)).trans hp.1, hp.2⟩, (hb3.block _ (blk_lt h4)).trans h4, blk_new _ _, ?_, below_step hb hb3⟩
  exact own_lower ((g1).kept (grown_of_below (below_alloc (Below.refl _ _) _) none) (by cases Value.ownBlock _ <;> simp)) (below_size hb)
set_option maxHeartbeats 8000000 in
set_option maxRecDepth 100000 in
theorem pitch_Hunter_Feed.calls (p : Nat) (A : Option Addr) (n c : Nat) (P x all : List Int) (s : Int) (ks : Nat) (w : World) (hp : Past w p 86 P) (hx : ReadsInt w .i16 A n x) (hn : n ≤ 120) (hr : ∀ v ∈ x, -32768 ≤ v ∧ v ≤ 32767) (hall : all = P ++ x)
    (hs : pitch_strength.f ks (pbest all n 63).2 (IntKind.u64.wrap (psum all 0 0 n)) (IntKind.u64.wrap (psum all (pbest all n 63).1 (pbest all n 63).1 n)) = some s) :
    Calls Try.prog 15 #[.pointer (some ⟨p, 0, none⟩), .slice A n c] w fun e w' => e = .returned (.tuple #[.agg #[.int .i64 (if s = 0 then 0 else (pbest all n 63).1), .int .i64 s], .int .i64 0]) ∧ Past w' p 86 (all.drop n) ∧ Only w w' p := by
  have hmf : ∀ (fn : Fn) (first cap : Array Value) (w : World), (Instr.makeFunc fn first cap).run Try.prog w = .ok (.func fn first cap) w := fun _ _ _ _ => rfl
  have hmk := print_make 26 2 .i64 8 Try.underlying26 info2 (by decide) n (by omega)
  have t0 : decide ((120 : Int) < (n : Int)) = false := decide_eq_false (by omega)
  have t1 : decide (120 < n) = false := decide_eq_false (by omega)
  have HP := Aside0.mk hp
  have HX := Aside0.mk hx
  have HN := Aside0.mk hn
  have HR := Aside0.mk hr
  have HALL := Aside0.mk hall
  have HS := Aside0.mk hs
  have hu29 := Try.underlying29
  clear hp hx hn hr hall hs
  go_enter Try.func15, Try.ntmps15
  go_wp2
  go_loopg [7, 8, 30] n (fun kq v7 v8 v30 wx => ∃ i : Nat, v30 = .int .i64 i ∧ Aside0 (kq + i = n) ∧ Aside0 (wx.heap[w.heap.size]? = some (.cells #[.int .i64 0, .int .i64 0] 29 (0, 0))) ∧ Aside0 (wx.heap[w.heap.size + 1]? = some (.cells (nums .i64 (x.take i ++ List.replicate (n - i) 0)).toArray 2 (0, 0))) ∧ Aside0 (Below w.heap.size w wx))
  case atStart => exact ⟨0, rfl, ⟨rfl⟩, ⟨(two_new w _ _).1⟩, ⟨by rw [(two_new w _ _).2, made_nums]; rfl⟩, ⟨below_alloc (below_alloc (Below.refl _ _) _) _⟩⟩
  case round =>
    obtain ⟨i, rfl, HI, H4, HW, HB⟩ := hrel
    by_cases hi : i < n
    · have b0 : decide ((i : Int) < (n : Int)) = true := decide_eq_true (by omega)
      have b1 : decide (i < n) = true := decide_eq_true hi
      have b2 : ((i : Int) < (n : Int)) = True := eq_true (by omega)
      obtain ⟨ad, eA, hcell⟩ := HX.out.2.2 (by omega)
      obtain ⟨y, hy⟩ : ∃ y, y = x.getD i 0 := ⟨_, rfl⟩
      have hyr : -32768 ≤ y ∧ y ≤ 32767 := by rw [hy, List.getD_eq_getElem?_getD, List.getElem?_eq_getElem (by rw [HX.out.1]; omega)]; exact HR.out _ (List.getElem_mem _)
      have hyw : wrap64 y = y := by unfold wrap64; omega
      have hx0 := hcell i hi
      rw [← hy] at hx0
      have hx1 := (HB.out.cell (World.block_lt_of_cell? w _ hx0)).trans hx0
      subst eA
      have hc := nums_at HW.out (i := i) (by rw [List.length_append, List.length_take, List.length_replicate, HX.out.1]; omega)
      have hf : wr.frozen? ⟨w.heap.size + 1, i, none⟩ = false := blk_frozen HW.out i
      have HY := Aside0.mk hy
      have HII := Aside0.mk hi
      clear hx0 hcell hyr hy hi
      go_wp2
      go_roundg (gk - 1)
      case rel => exact ⟨i + 1, by rw [wrap64_nat1 (by have := HN.out; have := HII.out; omega)], ⟨by have := HI.out; have := HII.out; omega⟩, ⟨(Below.heap_setCell _ _ _ _ (by simp)).trans H4.out⟩, ⟨by rw [blk_store HW.out i y, HY.out, set_next HII.out HX.out.1]⟩, ⟨below_set HB.out (by simp)⟩⟩
      case measure => have := HI.out; have := HII.out; omega
    · have hin : i = n := by have := HI.out; omega
      subst hin
      have hwide : wr.heap[w.heap.size + 1]? = some (.cells (nums .i64 x).toArray 2 (0, 0)) := by
        rw [HW.out, Nat.sub_self, List.replicate_zero, List.append_nil, List.take_of_length_le (by rw [HX.out.1]; exact Nat.le_refl _)]
      have HWI := Aside0.mk hwide
      have HPr := Aside0.mk (show Past wr p 86 P from ⟨(HB.out.block p (blk_lt HP.out.1)).trans HP.out.1, HP.out.2⟩)
      have hal : all.length = i + 79 := by rw [HALL.out, List.length_append, HP.out.2, HX.out.1]; omega
      have HAL := Aside0.mk hal
      clear hwide hal hi
      go_wp2_with (first | (go_at_call 47; refine (pitch_with.calls p 86 (some ⟨w.heap.size + 1, 0, none⟩) i i P x all HALL.out _ HPr.out (blk_reads HWI.out HX.out.1 (by have := HN.out; omega)) HN.out).mono ?_; rintro e w1 ⟨A1, c1, rfl, g1, g2⟩; have HI1 := Aside0.mk (show FInv w (w1.alloc (.cells #[.slice A1 all.length c1] 26)) p w.heap.size w1.heap.size A1 c1 P all from feed_inv HPr.out H4.out HB.out g1 g2); clear g1 g2) | (refine goesF_ (some 48) rfl rfl Try.func48 (by kernel_rfl) rfl (.tmp 47) #[.pointer (some ⟨w1.heap.size, 0, none⟩)] #[.int .i64 0, .int .i64 16, .pointer (some ⟨w1.heap.size, 0, none⟩)] rfl rfl (by simp [Act.eval]) ?_; refine (pitch_sum.at 0 16 w1.heap.size i A1 c1 all _ (by decide) (by decide) (by decide) (by decide) HI1.out.bx (own_reads' HI1.out.al) HAL.out HN.out).mono ?_; rintro e w2 ⟨rfl, q2, hq2⟩; refine ⟨_, rfl, ?_⟩; have HI2 := Aside0.mk (show FInv w w2 p w.heap.size w1.heap.size A1 c1 P all from hq2 ▸ HI1.out.drewN q2); clear hq2))
      go_loopg [11, 12, 13, 14] 63 (fun kq v11 v12 v13 v14 wx => ∃ (m : Nat) (lag best : Int), v13 = .int .i64 (17 + (m : Int)) ∧ v11 = .int .i64 lag ∧ v12 = .int .i64 best ∧ Aside0 (pbest all i m = (lag, best)) ∧ Aside0 (kq + m = 63) ∧ Aside0 (FInv w wx p w.heap.size w1.heap.size A1 c1 P all))
      case atStart => exact ⟨0, _, _, rfl, rfl, rfl, ⟨rfl⟩, ⟨rfl⟩, HI2⟩
      case round =>
        clear HI2
        obtain ⟨m, lag, best, rfl, rfl, rfl, HPB, HM, HI3⟩ := hrel
        by_cases hm : m < 63
        · have b0 : decide (17 + (m : Int) ≤ 79) = true := decide_eq_true (by omega)
          have b1 : (17 + (m : Int) ≤ 79) = True := eq_true (by omega)
          obtain ⟨cc, hcc⟩ : ∃ cc, cc = psum all 0 (17 + (m : Int)) i := ⟨_, rfl⟩
          have HCC := Aside0.mk hcc
          have HMM := Aside0.mk hm
          have wn : wrap64 (17 + (m : Int) + 1) = 17 + ((m + 1 : Nat) : Int) := by unfold wrap64; omega
          clear hm hcc
          by_cases hb : best < cc
          · have d0 : decide (best < cc) = true := decide_eq_true hb
            have HBC := Aside0.mk hb
            clear hb
            go_wp2_with (first | (refine goesF_ (some 55) rfl rfl Try.func48 (by kernel_rfl) rfl (.tmp 53) #[.pointer (some ⟨w1.heap.size, 0, none⟩)] #[.int .i64 0, .int .i64 (17 + (m : Int)), .pointer (some ⟨w1.heap.size, 0, none⟩)] rfl rfl (by simp [Act.eval]) ?_; refine (pitch_sum.at 0 (17 + (m : Int)) w1.heap.size i A1 c1 all _ (by decide) (by decide) (by have := HM.out; omega) (by have := HM.out; have := HMM.out; omega) HI3.out.bx (own_reads' HI3.out.al) HAL.out HN.out).mono ?_; rintro e w4 ⟨rfl, q2, hq2⟩; refine ⟨_, rfl, ?_⟩; have HI4 := Aside0.mk (show FInv w w4 p w.heap.size w1.heap.size A1 c1 P all from hq2 ▸ HI3.out.drewN q2); clear hq2; rw [← HCC.out]))
            go_roundg (gk - 1)
            case rel => exact ⟨m + 1, _, _, by first | rw [wn] | rfl | go_num, rfl, rfl, ⟨by rw [pbest, HPB.out, ← HCC.out, if_pos HBC.out]⟩, ⟨by have := HM.out; have := HMM.out; omega⟩, HI4⟩
            case measure => have := HM.out; have := HMM.out; omega
          · have d0 : decide (best < cc) = false := decide_eq_false hb
            have HBC := Aside0.mk (show ¬ best < cc from hb)
            clear hb
            go_wp2_with (first | (refine goesF_ (some 55) rfl rfl Try.func48 (by kernel_rfl) rfl (.tmp 53) #[.pointer (some ⟨w1.heap.size, 0, none⟩)] #[.int .i64 0, .int .i64 (17 + (m : Int)), .pointer (some ⟨w1.heap.size, 0, none⟩)] rfl rfl (by simp [Act.eval]) ?_; refine (pitch_sum.at 0 (17 + (m : Int)) w1.heap.size i A1 c1 all _ (by decide) (by decide) (by have := HM.out; omega) (by have := HM.out; have := HMM.out; omega) HI3.out.bx (own_reads' HI3.out.al) HAL.out HN.out).mono ?_; rintro e w4 ⟨rfl, q2, hq2⟩; refine ⟨_, rfl, ?_⟩; have HI4 := Aside0.mk (show FInv w w4 p w.heap.size w1.heap.size A1 c1 P all from hq2 ▸ HI3.out.drewN q2); clear hq2; rw [← HCC.out]))
            go_roundg (gk - 1)
            case rel => exact ⟨m + 1, _, _, by first | rw [wn] | rfl | go_num, rfl, rfl, ⟨by rw [pbest, HPB.out, ← HCC.out, if_neg (by have := HBC.out; omega)]⟩, ⟨by have := HM.out; have := HMM.out; omega⟩, HI4⟩
            case measure => have := HM.out; have := HMM.out; omega
        · have b0 : decide (17 + (m : Int) ≤ 79) = false := decide_eq_false (by omega)
          have b1 : (17 + (m : Int) ≤ 79) = False := eq_false (by omega)
          obtain rfl : m = 63 := by have := HM.out; omega
          have HLAG := Aside0.mk (show 0 ≤ lag ∧ lag ≤ 79 from by have h1_ := pbest_lag all i 63; rw [HPB.out] at h1_; dsimp at h1_; omega)
          have hs2 := HS.out
          rw [HPB.out] at hs2
          have HS2 := Aside0.mk hs2
          clear hm hs2
          go_wp2_with (first | (refine goesF_ (some 63) rfl rfl Try.func48 (by kernel_rfl) rfl (.tmp 62) #[.pointer (some ⟨w1.heap.size, 0, none⟩)] #[.int .i64 0, .int .i64 0, .pointer (some ⟨w1.heap.size, 0, none⟩)] rfl rfl (by simp [Act.eval]) ?_; refine (pitch_sum.at 0 0 w1.heap.size i A1 c1 all _ (by decide) (by decide) (by decide) (by decide) HI3.out.bx (own_reads' HI3.out.al) HAL.out HN.out).mono ?_; rintro e w4 ⟨rfl, q2, hq2⟩; refine ⟨_, rfl, ?_⟩; have HI4 := Aside0.mk (show FInv w w4 p w.heap.size w1.heap.size A1 c1 P all from hq2 ▸ HI3.out.drewN q2); clear hq2) | (refine goesF_ (some 68) rfl rfl Try.func48 (by kernel_rfl) rfl (.tmp 65) #[.pointer (some ⟨w1.heap.size, 0, none⟩)] #[.int .i64 lag, .int .i64 lag, .pointer (some ⟨w1.heap.size, 0, none⟩)] rfl rfl (by simp [Act.eval]) ?_; refine (pitch_sum.at lag lag w1.heap.size i A1 c1 all _ HLAG.out.1 HLAG.out.2 HLAG.out.1 HLAG.out.2 HI4.out.bx (own_reads' HI4.out.al) HAL.out HN.out).mono ?_; rintro e w5 ⟨rfl, q2, hq2⟩; refine ⟨_, rfl, ?_⟩; have HI5 := Aside0.mk (show FInv w w5 p w.heap.size w1.heap.size A1 c1 P all from hq2 ▸ HI4.out.drewN q2); clear hq2) | (go_at_call 49; refine (pitch_strength.calls ks best (IntKind.u64.wrap (psum all 0 0 i)) (IntKind.u64.wrap (psum all lag lag i)) s _ HS2.out).mono ?_; rintro e w6 ⟨rfl, hd6⟩; obtain ⟨q6, hq6⟩ := hd6.out; have HI6 := Aside0.mk (show FInv w w6 p w.heap.size w1.heap.size A1 c1 P all from hq6 ▸ HI5.out.drewN q6); clear hd6 hq6))
          have hz6 : w6.drew.cell? ⟨w1.heap.size, 0, none⟩ = some (.slice A1 all.length c1) := by show w6.cell? _ = _; rw [blk_cell HI6.out.bx]; rfl
          have HI7 := Aside0.mk (show FInv w w6.drew p w.heap.size w1.heap.size A1 c1 P all from HI6.out.drewN 1)
          obtain ⟨Q, hQ⟩ : ∃ Q, Q = all.drop i := ⟨_, rfl⟩
          have HQ := Aside0.mk hQ
          have hne : w.heap.size ≠ p := by have := blk_lt HP.out.1; omega
          have HNE := Aside0.mk hne
          clear hQ hne
          go_region_held3 (fun w' => w'.cell? ⟨w1.heap.size, 0, none⟩ = some (.slice A1 all.length c1)) (first | exact hz6 | exact hz7)
            (first | (go_at_call 50; refine (pitch_keep.calls p 86 A1 all.length c1 P all Q _ HI7.out.pp (own_reads' HI7.out.al) (own_cap HI7.out.al) (by have := HAL.out; omega) (by have h1_ := HAL.out; have h2_ := HN.out; omega) (by rw [HQ.out]; have := HAL.out; congr 1; omega)).mono ?_; rintro e w7 ⟨rfl, g1, g2⟩; have HP7 := Aside0.mk g1; obtain ⟨hz7, h47, h07⟩ := HI7.out.keep (blk_lt HP.out.1) g1 g2; have H47 := Aside0.mk h47; have HO7 := Aside0.mk h07; clear g1 g2 h47 h07))
          have c0 : w7.cell? ⟨w.heap.size, 0, none⟩ = some (.int .i64 0) := by rw [blk_cell H47.out]; rfl
          have c1 : w7.cell? ⟨w.heap.size, 1, none⟩ = some (.int .i64 0) := by rw [blk_cell H47.out]; rfl
          have d0 := blk_frozen H47.out 0
          have d1 := blk_frozen H47.out 1
          by_cases hs0 : s = 0
          · subst hs0
            go_wp2
            have hfin : ((w7.setCell ⟨w.heap.size, 0, none⟩ (.int .i64 0)).setCell ⟨w.heap.size, 1, none⟩ (.int .i64 0)).heap[w.heap.size]? = some (.cells #[.int .i64 0, .int .i64 0] 29 (0, 0)) := blk_set (blk_set H47.out 0 _) 1 _
            have f0 : ((w7.setCell ⟨w.heap.size, 0, none⟩ (.int .i64 0)).setCell ⟨w.heap.size, 1, none⟩ (.int .i64 0)).cell? ⟨w.heap.size, 0, none⟩ = some (.int .i64 0) := by rw [blk_cell hfin]; rfl
            have f1 : ((w7.setCell ⟨w.heap.size, 0, none⟩ (.int .i64 0)).setCell ⟨w.heap.size, 1, none⟩ (.int .i64 0)).cell? ⟨w.heap.size, 1, none⟩ = some (.int .i64 0) := by rw [blk_cell hfin]; rfl
            refine bodyPost_ret (v := .tuple #[.agg #[.int .i64 0, .int .i64 0], .int .i64 0]) (by simp [results, Try.results15, go_sem, f0, f1]) rfl ⟨rfl, ?_, ?_⟩
            · rw [← HQ.out]; refine ⟨?_, HP7.out.2⟩
              rw [Below.heap_setCell _ _ _ _ HNE.out.symm, Below.heap_setCell _ _ _ _ HNE.out.symm]; exact HP7.out.1
            · refine ⟨HO7.out.os, HO7.out.tape, HO7.out.output, by simpa [World.setCell] using HO7.out.size, fun j hj hp => ?_⟩
              rw [Below.heap_setCell _ _ _ _ (by simp; omega), Below.heap_setCell _ _ _ _ (by simp; omega)]
              exact HO7.out.block j hj hp
          · have e0 : (s == (0 : Int)) = false := by simpa using hs0
            go_wp2
            have hfin : ((w7.setCell ⟨w.heap.size, 0, none⟩ (.int .i64 lag)).setCell ⟨w.heap.size, 1, none⟩ (.int .i64 s)).heap[w.heap.size]? = some (.cells #[.int .i64 lag, .int .i64 s] 29 (0, 0)) := blk_set (blk_set H47.out 0 _) 1 _
            have f0 : ((w7.setCell ⟨w.heap.size, 0, none⟩ (.int .i64 lag)).setCell ⟨w.heap.size, 1, none⟩ (.int .i64 s)).cell? ⟨w.heap.size, 0, none⟩ = some (.int .i64 lag) := by rw [blk_cell hfin]; rfl
            have f1 : ((w7.setCell ⟨w.heap.size, 0, none⟩ (.int .i64 lag)).setCell ⟨w.heap.size, 1, none⟩ (.int .i64 s)).cell? ⟨w.heap.size, 1, none⟩ = some (.int .i64 s) := by rw [blk_cell hfin]; rfl
            refine bodyPost_ret (v := .tuple #[.agg #[.int .i64 lag, .int .i64 s], .int .i64 0]) (by simp [results, Try.results15, go_sem, f0, f1]) rfl ⟨by rw [HPB.out], ?_, ?_⟩
            · rw [← HQ.out]; refine ⟨?_, HP7.out.2⟩
              rw [Below.heap_setCell _ _ _ _ HNE.out.symm, Below.heap_setCell _ _ _ _ HNE.out.symm]; exact HP7.out.1
            · refine ⟨HO7.out.os, HO7.out.tape, HO7.out.output, by simpa [World.setCell] using HO7.out.size, fun j hj hp => ?_⟩
              rw [Below.heap_setCell _ _ _ _ (by simp; omega), Below.heap_setCell _ _ _ _ (by simp; omega)]
              exact HO7.out.block j hj hp

end Go.Proofs.Ytblehkoonajofaa.PPitch
