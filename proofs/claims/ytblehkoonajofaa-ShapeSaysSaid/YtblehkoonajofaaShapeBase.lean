/- Shape: what the shapes' inner calls come to. -/
import Derived.Test.YtblehkoonajofaaPShapex0
import Derived.Test.YtblehkoonajofaaPShapex1
import Derived.Test.YtblehkoonajofaaPShapex2
import Derived.Test.YtblehkoonajofaaPShapex3
import Derived.WalkSpells
import Derived.Outline
import Derived.Deep.LoopGhost
import Derived.Deep.RegionLaw
import Derived.Deep.RegionHeld3
import Derived.Deep.MidRow
import Derived.StillTailTactics
import Derived.Lib.SliceRun
import Derived.Laws.CopyOwn
import Derived.Test.YtblehkoonajofaaWZeros
namespace Go.Proofs.Ytblehkoonajofaa.PShape
open Go.RowKit Go.Proofs.YtblehkoonajofaaW.PrintWords Go.Proofs.YtblehkoonajofaaW.PrintLast Go.Proofs.YtblehkoonajofaaW.PrintMore
attribute [local go_sem] max2_int min2_int max_two min_two max_three min_three max_four min_four   -- for this text's walks alone
set_option linter.unusedVariables false
set_option linter.unusedSimpArgs false
theorem own_lower {w : World} {base b2 n : Nat} {e : TypeId} {size : Nat} {v : Value} {xs : List Value} (h : w.ownsRow base e size v n xs) (hb : b2 ≤ base) : w.ownsRow b2 e size v n xs := by
  obtain ⟨h1, h2⟩ := h
  refine ⟨h1, ?_⟩
  rcases h2 with h2 | ⟨g, cap, cur, rfl, hg, r⟩
  · exact .inl h2
  · exact .inr ⟨g, cap, cur, rfl, Nat.le_trans hb hg, r⟩
theorem two_new (w : World) (o1 o2 : Obj) : ((w.alloc o1).alloc o2).heap[w.heap.size]? = some o1 ∧ ((w.alloc o1).alloc o2).heap[w.heap.size + 1]? = some o2 := by
  constructor
  · rw [(below_alloc (Below.refl (w.alloc o1).heap.size (w.alloc o1)) o2).block _ (by rw [World.size_alloc]; omega)]; exact heap_alloc_new w o1
  · have h := heap_alloc_new (w.alloc o1) o2
    rwa [World.size_alloc] at h
theorem made_nums (k : IntKind) (m : Nat) : madeCells #[Value.int k 0] m = (nums k (List.replicate m 0)).toArray := by
  apply Array.ext'
  rw [toList_madeCells_one]; simp [nums]
theorem nums_at {w : World} {g ty : Nat} {L : List Int} {k : IntKind} (h : w.heap[g]? = some (.cells (nums k L).toArray ty (0, 0))) {i : Nat} (hi : i < L.length) : w.cell? ⟨g, i, none⟩ = some (.int k (L.getD i 0)) := by
  rw [blk_cell h]
  simp [nums, List.getD_eq_getElem?_getD, List.getElem?_eq_getElem hi]
theorem wrap64_nat1 {n : Nat} (h : n ≤ 1000000) : wrap64 ((n : Int) + 1) = ((n + 1 : Nat) : Int) := by unfold wrap64; omega
theorem blk_store {w : World} {g ty : Nat} {L : List Int} {k : IntKind} (h : w.heap[g]? = some (.cells (nums k L).toArray ty (0, 0))) (i : Nat) (v : Int) : (w.setCell ⟨g, i, none⟩ (.int k v)).heap[g]? = some (.cells (nums k (L.set i v)).toArray ty (0, 0)) := by
  rw [blk_set h i _]
  congr 2
  simp [nums]
theorem set_next {x : List Int} {n i : Nat} (hi : i < n) (hn : x.length = n) : (x.take i ++ List.replicate (n - i) 0).set i (x.getD i 0) = x.take (i + 1) ++ List.replicate (n - (i + 1)) 0 := by
  have h1 : (x.take i).length = i := by rw [List.length_take]; omega
  obtain ⟨m, hm⟩ : ∃ m, n - i = m + 1 := ⟨n - i - 1, by omega⟩
  rw [hm, List.replicate_succ, List.set_append_right _ _ (by omega), h1, Nat.sub_self, List.set_cons_zero, show n - (i + 1) = m by omega, List.take_add_one, List.getElem?_eq_getElem (by omega), List.getD_eq_getElem?_getD, List.getElem?_eq_getElem (by omega), List.append_assoc]
  rfl
theorem own_reads' {w : World} {base n c : Nat} {A : Option Addr} {e : TypeId} {k : IntKind} {xs : List Int} (h : w.ownsRow base e 1 (.slice A n c) n (nums k xs)) : ReadsInt w k A n xs := by
  obtain ⟨A', c', e, hr⟩ := own_reads h
  cases e; exact hr
theorem own_cap {w : World} {base n c : Nat} {e : TypeId} {A : Option Addr} {xs : List Value} (h : w.ownsRow base e 1 (.slice A n c) n xs) : n ≤ c := by
  rcases h.2 with ⟨h, _⟩ | ⟨g, cap, cur, h, _, _, hc, _⟩
  · cases h; exact Nat.le_refl _
  · cases h; exact hc
theorem blk_reads {w : World} {g ty : Nat} {L : List Int} {k : IntKind} {n : Nat} (h : w.heap[g]? = some (.cells (nums k L).toArray ty (0, 0))) (hn : L.length = n) (hm : n ≤ 9223372036854775807) : ReadsInt w k (some ⟨g, 0, none⟩) n L :=
  ⟨hn, hm, fun _ => ⟨_, rfl, fun j hj => by rw [add_plain]; exact nums_at h (by omega)⟩⟩
theorem own_of_blk {w : World} {base g n ty : Nat} {k : IntKind} {L : List Int} (hb : base ≤ g) (h : w.heap[g]? = some (.cells (nums k L).toArray ty (0, 0))) (hn : L.length = n) (hm : n ≤ maxLen) : w.ownsRow base ty 1 (.slice (some ⟨g, 0, none⟩) n n) n (nums k L) :=
  ⟨by rw [nums_length, hn, Nat.mul_one], .inr ⟨g, n, _, rfl, hb, h, Nat.le_refl _, hm, by simp [nums, hn], by simp [nums]; rw [List.take_of_length_le (by simp [hn])]⟩⟩
theorem wrap64_range (n : Int) : -9223372036854775808 ≤ wrap64 n ∧ wrap64 n ≤ 9223372036854775807 := by unfold wrap64; omega
theorem own_C {w : World} {base n c : Nat} {e : TypeId} {k : IntKind} {A : Option Addr} {xs : List Int} (h : w.ownsRow base e 1 (.slice A n c) xs.length (nums k xs)) : Kd.C (Kd.int k) w A xs.length xs := by
  have hr : Kd.R (Kd.int k) e w base (fun _ => True) (.slice A n c) xs := Kd.R_of_own h (fun _ _ => trivial)
  obtain ⟨A', c', e⟩ := Kd.R_slice hr
  cases e
  exact (Kd.R_reads' hr).2.2
theorem reads_below {w wx : World} {k : IntKind} {A : Option Addr} {n : Nat} {x : List Int} (h : ReadsInt w k A n x) (hb : Below w.heap.size w wx) : ReadsInt wx k A n x := h.below hb
theorem box_later {wx wy : World} {g : Nat} {o : Obj} (h : wx.heap[g]? = some o) (hb : Below wx.heap.size wx wy) : wy.heap[g]? = some o := (hb.block g (blk_lt h)).trans h
/-- The numbers of a code. -/
def bookL : List (List Int) := [[0, 0, 0, 0, 0, 0, 0, 0], [192, 128, 64, 0, 0, -64, -128, -192], [384, 256, 128, 0, 0, -128, -256, -384], [512, 384, 192, 0, -64, -192, -320, -512],
  [-192, -128, -64, 0, 0, 64, 128, 192], [-384, -256, -128, 0, 0, 128, 256, 384], [256, 256, 0, 0, -128, -128, -128, -128], [-128, -128, 256, 256, 0, 0, -128, -128],
  [-192, -64, 64, 192, 192, 64, -64, -192], [192, 64, -64, -192, -192, -64, 64, 192], [512, 0, 0, -64, -64, -128, -128, -128], [0, 384, 128, 0, -64, -128, -128, -192],
  [0, 0, 320, 128, 0, -128, -128, -192], [-64, -64, -64, 320, 128, 0, -128, -128], [128, 128, 128, 128, -128, -128, -128, -128], [256, 128, 128, 64, 0, -64, -192, -320]]
def bookC : Array Value := (nums .i64 bookL.flatten).toArray
def rowOf (c : Nat) : List Int := bookL.getD c []
/-- How far two rows are from each other, up to place k. -/
def farUpto (a b : List Int) : Nat → Int
  | 0 => 0
  | k+1 => farUpto a b k + mx (a.getD k 0 - b.getD k 0) (b.getD k 0 - a.getD k 0)
def far (a b : List Int) : Int := farUpto a b 8
def arrI (a : List Int) : Value := .agg (nums .i64 a).toArray
def small (a : List Int) : Prop := a.length = 8 ∧ ∀ k, -1048576 ≤ a.getD k 0 ∧ a.getD k 0 ≤ 1048576
theorem eight {a : List Int} (h : a.length = 8) : ∃ a0 a1 a2 a3 a4 a5 a6 a7, a = [a0, a1, a2, a3, a4, a5, a6, a7] := by
  match a, h with
  | [a0, a1, a2, a3, a4, a5, a6, a7], _ => exact ⟨a0, a1, a2, a3, a4, a5, a6, a7, rfl⟩
theorem index_arr (a : List Int) (h : a.length = 8) (i : Int) (h0 : 0 ≤ i) (h8 : i < 8) (w : World) : (Instr.index 49 (arrI a) (.int .i64 i)).run Try.prog w = .ok (.int .i64 (a.getD i.toNat 0)) w := by
  obtain ⟨a0, a1, a2, a3, a4, a5, a6, a7, rfl⟩ := eight h
  have hc : i = 0 ∨ i = 1 ∨ i = 2 ∨ i = 3 ∨ i = 4 ∨ i = 5 ∨ i = 6 ∨ i = 7 := by omega
  have at0 : ∀ w_ : World, (Instr.index 49 (.agg #[.int .i64 a0, .int .i64 a1, .int .i64 a2, .int .i64 a3, .int .i64 a4, .int .i64 a5, .int .i64 a6, .int .i64 a7]) (.int .i64 0)).run Try.prog w_ = .ok (.int .i64 a0) w_ := fun _ => by kernel_rfl
  have at1 : ∀ w_ : World, (Instr.index 49 (.agg #[.int .i64 a0, .int .i64 a1, .int .i64 a2, .int .i64 a3, .int .i64 a4, .int .i64 a5, .int .i64 a6, .int .i64 a7]) (.int .i64 1)).run Try.prog w_ = .ok (.int .i64 a1) w_ := fun _ => by kernel_rfl
  have at2 : ∀ w_ : World, (Instr.index 49 (.agg #[.int .i64 a0, .int .i64 a1, .int .i64 a2, .int .i64 a3, .int .i64 a4, .int .i64 a5, .int .i64 a6, .int .i64 a7]) (.int .i64 2)).run Try.prog w_ = .ok (.int .i64 a2) w_ := fun _ => by kernel_rfl
  have at3 : ∀ w_ : World, (Instr.index 49 (.agg #[.int .i64 a0, .int .i64 a1, .int .i64 a2, .int .i64 a3, .int .i64 a4, .int .i64 a5, .int .i64 a6, .int .i64 a7]) (.int .i64 3)).run Try.prog w_ = .ok (.int .i64 a3) w_ := fun _ => by kernel_rfl
  have at4 : ∀ w_ : World, (Instr.index 49 (.agg #[.int .i64 a0, .int .i64 a1, .int .i64 a2, .int .i64 a3, .int .i64 a4, .int .i64 a5, .int .i64 a6, .int .i64 a7]) (.int .i64 4)).run Try.prog w_ = .ok (.int .i64 a4) w_ := fun _ => by kernel_rfl
  have at5 : ∀ w_ : World, (Instr.index 49 (.agg #[.int .i64 a0, .int .i64 a1, .int .i64 a2, .int .i64 a3, .int .i64 a4, .int .i64 a5, .int .i64 a6, .int .i64 a7]) (.int .i64 5)).run Try.prog w_ = .ok (.int .i64 a5) w_ := fun _ => by kernel_rfl
  have at6 : ∀ w_ : World, (Instr.index 49 (.agg #[.int .i64 a0, .int .i64 a1, .int .i64 a2, .int .i64 a3, .int .i64 a4, .int .i64 a5, .int .i64 a6, .int .i64 a7]) (.int .i64 6)).run Try.prog w_ = .ok (.int .i64 a6) w_ := fun _ => by kernel_rfl
  have at7 : ∀ w_ : World, (Instr.index 49 (.agg #[.int .i64 a0, .int .i64 a1, .int .i64 a2, .int .i64 a3, .int .i64 a4, .int .i64 a5, .int .i64 a6, .int .i64 a7]) (.int .i64 7)).run Try.prog w_ = .ok (.int .i64 a7) w_ := fun _ => by kernel_rfl
  rcases hc with rfl | rfl | rfl | rfl | rfl | rfl | rfl | rfl
  · exact at0 w
  · exact at1 w
  · exact at2 w
  · exact at3 w
  · exact at4 w
  · exact at5 w
  · exact at6 w
  · exact at7 w
theorem cell_arr (a : List Int) (h : a.length = 8) {w : World} {b : Nat} (hb : w.heap[b]? = some (.cells (nums .i64 a).toArray 49 (0, 0))) (i : Int) (h0 : 0 ≤ i) (h8 : i < 8) : w.cell? ⟨b, i.toNat, none⟩ = some (.int .i64 (a.getD i.toNat 0)) := by
  obtain ⟨a0, a1, a2, a3, a4, a5, a6, a7, rfl⟩ := eight h
  have hc : i = 0 ∨ i = 1 ∨ i = 2 ∨ i = 3 ∨ i = 4 ∨ i = 5 ∨ i = 6 ∨ i = 7 := by omega
  rcases hc with rfl | rfl | rfl | rfl | rfl | rfl | rfl | rfl <;> simp [World.cell?, hb, nums]
theorem farUpto_small {a b : List Int} (ha : small a) (hb : small b) : ∀ k : Nat, 0 ≤ farUpto a b k ∧ farUpto a b k ≤ 2097152 * k
  | 0 => ⟨Int.le_refl _, Int.le_refl _⟩
  | k+1 => by
    have h := farUpto_small ha hb k
    have h1 := ha.2 k; have h2 := hb.2 k
    simp only [farUpto, mx]
    split <;> omega
theorem shape_distance.calls (a b : List Int) (ha : small a) (hb : small b) (w : World) : Calls Try.prog 59 #[arrI a, arrI b] w fun e w' => e = .returned (.int .i64 (far a b)) ∧ Below w.heap.size w w' := by
  obtain ⟨a0, a1, a2, a3, a4, a5, a6, a7, rfl⟩ := eight ha.1
  obtain ⟨b0, b1, b2, b3, b4, b5, b6, b7, rfl⟩ := eight hb.1
  have HA := Aside0.mk ha; have HB := Aside0.mk hb
  clear ha hb
  unfold arrI
  simp only [nums, List.map]
  have b0_ := Aside0.mk (below_alloc (below_alloc (Below.refl w.heap.size w) (.cells (nums .i64 [a0, a1, a2, a3, a4, a5, a6, a7]).toArray 49)) (.cells (nums .i64 [b0, b1, b2, b3, b4, b5, b6, b7]).toArray 49))
  have bb_ := Aside0.mk (blk_new (w.alloc (.cells (nums .i64 [a0, a1, a2, a3, a4, a5, a6, a7]).toArray 49)) (.cells (nums .i64 [b0, b1, b2, b3, b4, b5, b6, b7]).toArray 49))
  go_enter Try.func59, Try.ntmps59
  go_wp2
  change Code.wp _ _ _ _ ((w.alloc (.cells (nums .i64 [a0, a1, a2, a3, a4, a5, a6, a7]).toArray 49)).alloc (.cells (nums .i64 [b0, b1, b2, b3, b4, b5, b6, b7]).toArray 49))
  generalize (w.alloc (.cells (nums .i64 [a0, a1, a2, a3, a4, a5, a6, a7]).toArray 49)).alloc (.cells (nums .i64 [b0, b1, b2, b3, b4, b5, b6, b7]).toArray 49) = w2 at b0_ bb_ ⊢
  have hz0 : (w.alloc (.cells (nums .i64 [a0, a1, a2, a3, a4, a5, a6, a7]).toArray 49)).heap.size = w.heap.size + 1 := Array.size_push ..
  rw [hz0] at bb_
  clear hz0
  have HI := Aside0.mk (index_arr [a0, a1, a2, a3, a4, a5, a6, a7] rfl)
  have HZ := Aside0.mk (farUpto_small HA.out HB.out)
  go_loopg [5, 6, 7, 9, 10, 11, 12, 13, 14, 15, 16, 17, 18, 19, 20, 21, 22, 23, 24, 25, 26] 8 (fun kq v5 v6 v7 v9 v10 v11 v12 v13 v14 v15 v16 v17 v18 v19 v20 v21 v22 v23 v24 v25 v26 w' => ∃ i : Nat, kq + i = 8 ∧ v9 = .int .i64 (i : Int) ∧ v5 = .int .i64 (farUpto [a0, a1, a2, a3, a4, a5, a6, a7] [b0, b1, b2, b3, b4, b5, b6, b7] i) ∧ Aside0 (w'.heap[w.heap.size + 1]? = some (.cells (nums .i64 [b0, b1, b2, b3, b4, b5, b6, b7]).toArray 49 (0, 0))) ∧ Aside0 (Below w.heap.size w w'))
  case atStart => exact ⟨0, rfl, rfl, rfl, ⟨bb_.out⟩, ⟨b0_.out⟩⟩
  case round =>
    clear b0_ bb_
    obtain ⟨i, hki, rfl, rfl, HX, HB1⟩ := hrel
    by_cases hi : i < 8
    · have hi0 : (0 : Int) ≤ i := by omega
      have hi8 : (i : Int) < 8 := by omega
      have hx := fun w_ => HI.out (i : Int) hi0 hi8 w_
      simp only [arrI, nums, List.map] at hx
      have hy := cell_arr [b0, b1, b2, b3, b4, b5, b6, b7] rfl HX.out i hi0 hi8
      simp only [Int.toNat_natCast] at hx hy
      have hxa := HA.out.2 i
      have hxb := HB.out.2 i
      have hz := HZ.out i
      have hfs : farUpto [a0, a1, a2, a3, a4, a5, a6, a7] [b0, b1, b2, b3, b4, b5, b6, b7] (i + 1) = farUpto [a0, a1, a2, a3, a4, a5, a6, a7] [b0, b1, b2, b3, b4, b5, b6, b7] i + mx ([a0, a1, a2, a3, a4, a5, a6, a7].getD i 0 - [b0, b1, b2, b3, b4, b5, b6, b7].getD i 0) ([b0, b1, b2, b3, b4, b5, b6, b7].getD i 0 - [a0, a1, a2, a3, a4, a5, a6, a7].getD i 0) := rfl
      generalize [a0, a1, a2, a3, a4, a5, a6, a7].getD i 0 = x at hx hxa hfs
      generalize [b0, b1, b2, b3, b4, b5, b6, b7].getD i 0 = y at hy hxb hfs
      have hyd : wr.drew.cell? ⟨w.heap.size + 1, i, none⟩ = some (.int .i64 y) := hy
      go_wp2
      go_region_held3 (fun w' => w'.cell? ⟨w.heap.size + 1, i, none⟩ = some (.int .i64 y)) (first | exact hy | exact hyd) (first | fail)
      have HX2 : Aside0 (wr.drew.heap[w.heap.size + 1]? = _) := ⟨HX.out⟩
      have HB2 := Aside0.mk (below_drew HB1.out)
      have e1 : IntKind.i64.wrap (x - y) = x - y := by rw [i64_w]; unfold wrap64; omega
      have e2 : IntKind.i64.wrap (y - x) = y - x := by rw [i64_w]; unfold wrap64; omega
      rw [e1, e2]
      have e3 : IntKind.i64.wrap (farUpto [a0, a1, a2, a3, a4, a5, a6, a7] [b0, b1, b2, b3, b4, b5, b6, b7] i + if x - y < y - x then y - x else x - y) = farUpto [a0, a1, a2, a3, a4, a5, a6, a7] [b0, b1, b2, b3, b4, b5, b6, b7] (i + 1) := by
        rw [hfs, i64_w]
        unfold mx wrap64
        split <;> omega
      rw [e3]
      clear hx hy hyd hz hfs e1 e2 e3
      generalize (if x - y < y - x then y - x else x - y) = m_
      generalize wr.drew = wd at HX2 HB2 ⊢
      go_wp2
      obtain ⟨g0, rfl⟩ : ∃ g0, gk = g0 + 1 := ⟨gk - 1, by omega⟩
      go_roundg g0
      case measure => omega
      case rel => exact ⟨i + 1, by omega, by first | rfl | (congr 1; push_cast; rfl), rfl, HX2, HB2⟩
    · obtain rfl : i = 8 := by omega
      go_wp2
      exact bodyPost_ret (v := .int .i64 _) (by simp [results, Try.results59, go_sem, far]) rfl ⟨rfl, HB1.out⟩
/-- The rest is in its bounds, up to place k. -/
def restUpto (r : List Int) (k : Nat) : Prop := ∀ j, j < k → -4 ≤ r.getD j 0 ∧ r.getD j 0 ≤ 3
def okShape (c : Int) (r : List Int) : Prop := (0 ≤ c ∧ c ≤ 15) ∧ restUpto r 8
instance (r : List Int) (k : Nat) : Decidable (restUpto r k) := by unfold restUpto; infer_instance
instance (c : Int) (r : List Int) : Decidable (okShape c r) := by unfold okShape; infer_instance
def shapeV (c : Int) (r : List Int) : Value := .agg (.int .i64 c :: nums .i64 r).toArray
theorem restUpto_succ {r : List Int} {k : Nat} : restUpto r (k + 1) ↔ restUpto r k ∧ (-4 ≤ r.getD k 0 ∧ r.getD k 0 ≤ 3) := by
  constructor
  · intro h; exact ⟨fun j hj => h j (by omega), h k (by omega)⟩
  · rintro ⟨h1, h2⟩ j hj
    by_cases e : j = k
    · subst e; exact h2
    · exact h1 j (by omega)
theorem shape_Check.calls (c : Int) (r : List Int) (hr : r.length = 8) (q : Int) (hq : Aside0 (q = if okShape c r then 0 else 1)) (w : World) : Calls Try.prog 38 #[shapeV c r] w fun e w' => e = .returned (.int .i64 q) ∧ Below w.heap.size w w' := by
  obtain ⟨r0, r1, r2, r3, r4, r5, r6, r7, rfl⟩ := eight hr
  clear hr
  have HI := Aside0.mk (index_arr [r0, r1, r2, r3, r4, r5, r6, r7] rfl)
  have HBB := Aside0.mk (below_alloc (Below.refl w.heap.size w) (.cells #[.int .i64 c, .int .i64 r0, .int .i64 r1, .int .i64 r2, .int .i64 r3, .int .i64 r4, .int .i64 r5, .int .i64 r6, .int .i64 r7] 51))
  unfold shapeV
  simp only [nums, List.map]
  go_enter Try.func38, Try.ntmps38
  by_cases h0 : c < 0
  · go_wp2
    exact bodyPost_ret (v := .int .i64 1) (by simp [results, Try.results38, go_sem]) rfl ⟨by rw [hq.out, if_neg (fun h => by unfold okShape at h; omega)], HBB.out⟩
  have h0' : 0 ≤ c := by omega
  by_cases h15 : c > 15
  · go_wp2
    exact bodyPost_ret (v := .int .i64 1) (by simp [results, Try.results38, go_sem]) rfl ⟨by rw [hq.out, if_neg (fun h => by unfold okShape at h; omega)], HBB.out⟩
  have h15' : c ≤ 15 := by omega
  go_wp2
  change Code.wp _ _ _ _ (w.alloc (.cells #[.int .i64 c, .int .i64 r0, .int .i64 r1, .int .i64 r2, .int .i64 r3, .int .i64 r4, .int .i64 r5, .int .i64 r6, .int .i64 r7] 51))
  generalize (w.alloc (.cells #[.int .i64 c, .int .i64 r0, .int .i64 r1, .int .i64 r2, .int .i64 r3, .int .i64 r4, .int .i64 r5, .int .i64 r6, .int .i64 r7] 51)) = w2 at HBB ⊢
  have HQ : Aside0 (q = if restUpto [r0, r1, r2, r3, r4, r5, r6, r7] 8 then 0 else 1) := ⟨by rw [hq.out]; by_cases h : restUpto [r0, r1, r2, r3, r4, r5, r6, r7] 8 <;> simp [okShape, h, h0', h15']⟩
  clear hq h0 h15 h0' h15'
  go_loopg [2, 4, 15, 16, 17, 18, 19, 20, 21, 22, 23, 24] 8 (fun kq v2 v4 v15 v16 v17 v18 v19 v20 v21 v22 v23 v24 w' => ∃ i : Nat, kq + i = 8 ∧ v15 = .int .i64 (i : Int) ∧ v2 = .int .i64 0 ∧ Aside0 (restUpto [r0, r1, r2, r3, r4, r5, r6, r7] i) ∧ Aside0 (Below w.heap.size w w'))
  case atStart => exact ⟨0, rfl, rfl, rfl, ⟨fun j hj => by omega⟩, ⟨HBB.out⟩⟩
  case round =>
    clear HBB
    obtain ⟨i, hki, rfl, rfl, HU, HB1⟩ := hrel
    by_cases hi : i < 8
    · have hi0 : (0 : Int) ≤ i := by omega
      have hi8 : (i : Int) < 8 := by omega
      have hx := fun w_ => HI.out (i : Int) hi0 hi8 w_
      simp only [arrI, nums, List.map] at hx
      simp only [Int.toNat_natCast] at hx
      obtain ⟨x, hxe⟩ : ∃ x, x = [r0, r1, r2, r3, r4, r5, r6, r7].getD i 0 := ⟨_, rfl⟩
      rw [← hxe] at hx
      have HXE := Aside0.mk hxe
      clear hxe
      by_cases g1 : x < -4
      · go_wp2
        exact bodyPost_ret (v := .int .i64 1) (by simp [results, Try.results38, go_sem]) rfl ⟨by rw [HQ.out, if_neg (fun h => by have := (h i hi).1; rw [← HXE.out] at this; omega)], HB1.out⟩
      by_cases g2 : x > 3
      · go_wp2
        exact bodyPost_ret (v := .int .i64 1) (by simp [results, Try.results38, go_sem]) rfl ⟨by rw [HQ.out, if_neg (fun h => by have := (h i hi).2; rw [← HXE.out] at this; omega)], HB1.out⟩
      go_wp2
      obtain ⟨g0, rfl⟩ : ∃ g0, gk = g0 + 1 := ⟨gk - 1, by omega⟩
      go_roundg g0
      case measure => omega
      case rel => exact ⟨i + 1, by omega, by first | rfl | (congr 1; push_cast; rfl), rfl, ⟨restUpto_succ.2 ⟨HU.out, by rw [← HXE.out]; omega⟩⟩, HB1⟩
    · obtain rfl : i = 8 := by omega
      go_wp2
      exact bodyPost_ret (v := .int .i64 0) (by simp [results, Try.results38, go_sem]) rfl ⟨by rw [HQ.out, if_pos HU.out], HB1.out⟩
theorem book_row (c : Int) (h0 : 0 ≤ c) (h1 : c ≤ 15) (w : World) : (Instr.index 100 (.agg bookC) (.int .i64 c)).run Try.prog w = .ok (arrI (rowOf c.toNat)) w := by
  have at0 : ∀ w_ : World, (Instr.index 100 (.agg bookC) (.int .i64 0)).run Try.prog w_ = .ok (arrI (rowOf 0)) w_ := fun _ => by kernel_rfl
  have at1 : ∀ w_ : World, (Instr.index 100 (.agg bookC) (.int .i64 1)).run Try.prog w_ = .ok (arrI (rowOf 1)) w_ := fun _ => by kernel_rfl
  have at2 : ∀ w_ : World, (Instr.index 100 (.agg bookC) (.int .i64 2)).run Try.prog w_ = .ok (arrI (rowOf 2)) w_ := fun _ => by kernel_rfl
  have at3 : ∀ w_ : World, (Instr.index 100 (.agg bookC) (.int .i64 3)).run Try.prog w_ = .ok (arrI (rowOf 3)) w_ := fun _ => by kernel_rfl
  have at4 : ∀ w_ : World, (Instr.index 100 (.agg bookC) (.int .i64 4)).run Try.prog w_ = .ok (arrI (rowOf 4)) w_ := fun _ => by kernel_rfl
  have at5 : ∀ w_ : World, (Instr.index 100 (.agg bookC) (.int .i64 5)).run Try.prog w_ = .ok (arrI (rowOf 5)) w_ := fun _ => by kernel_rfl
  have at6 : ∀ w_ : World, (Instr.index 100 (.agg bookC) (.int .i64 6)).run Try.prog w_ = .ok (arrI (rowOf 6)) w_ := fun _ => by kernel_rfl
  have at7 : ∀ w_ : World, (Instr.index 100 (.agg bookC) (.int .i64 7)).run Try.prog w_ = .ok (arrI (rowOf 7)) w_ := fun _ => by kernel_rfl
  have at8 : ∀ w_ : World, (Instr.index 100 (.agg bookC) (.int .i64 8)).run Try.prog w_ = .ok (arrI (rowOf 8)) w_ := fun _ => by kernel_rfl
  have at9 : ∀ w_ : World, (Instr.index 100 (.agg bookC) (.int .i64 9)).run Try.prog w_ = .ok (arrI (rowOf 9)) w_ := fun _ => by kernel_rfl
  have at10 : ∀ w_ : World, (Instr.index 100 (.agg bookC) (.int .i64 10)).run Try.prog w_ = .ok (arrI (rowOf 10)) w_ := fun _ => by kernel_rfl
  have at11 : ∀ w_ : World, (Instr.index 100 (.agg bookC) (.int .i64 11)).run Try.prog w_ = .ok (arrI (rowOf 11)) w_ := fun _ => by kernel_rfl
  have at12 : ∀ w_ : World, (Instr.index 100 (.agg bookC) (.int .i64 12)).run Try.prog w_ = .ok (arrI (rowOf 12)) w_ := fun _ => by kernel_rfl
  have at13 : ∀ w_ : World, (Instr.index 100 (.agg bookC) (.int .i64 13)).run Try.prog w_ = .ok (arrI (rowOf 13)) w_ := fun _ => by kernel_rfl
  have at14 : ∀ w_ : World, (Instr.index 100 (.agg bookC) (.int .i64 14)).run Try.prog w_ = .ok (arrI (rowOf 14)) w_ := fun _ => by kernel_rfl
  have at15 : ∀ w_ : World, (Instr.index 100 (.agg bookC) (.int .i64 15)).run Try.prog w_ = .ok (arrI (rowOf 15)) w_ := fun _ => by kernel_rfl
  have hc : c = 0 ∨ c = 1 ∨ c = 2 ∨ c = 3 ∨ c = 4 ∨ c = 5 ∨ c = 6 ∨ c = 7 ∨ c = 8 ∨ c = 9 ∨ c = 10 ∨ c = 11 ∨ c = 12 ∨ c = 13 ∨ c = 14 ∨ c = 15 := by omega
  rcases hc with rfl | rfl | rfl | rfl | rfl | rfl | rfl | rfl | rfl | rfl | rfl | rfl | rfl | rfl | rfl | rfl
  · exact at0 w
  · exact at1 w
  · exact at2 w
  · exact at3 w
  · exact at4 w
  · exact at5 w
  · exact at6 w
  · exact at7 w
  · exact at8 w
  · exact at9 w
  · exact at10 w
  · exact at11 w
  · exact at12 w
  · exact at13 w
  · exact at14 w
  · exact at15 w
theorem rowOf_small : ∀ c : Nat, c ≤ 15 → (rowOf c).length = 8 ∧ ∀ k, -512 ≤ (rowOf c).getD k 0 ∧ (rowOf c).getD k 0 ≤ 512 := by
  intro c hc
  have h : ∀ c : Fin 16, (rowOf c.val).length = 8 ∧ ∀ k : Fin 8, -512 ≤ (rowOf c.val).getD k.val 0 ∧ (rowOf c.val).getD k.val 0 ≤ 512 := by decide
  have h1 := h ⟨c, by omega⟩
  refine ⟨h1.1, fun k => ?_⟩
  by_cases hk : k < 8
  · exact h1.2 ⟨k, hk⟩
  · have h2 : (rowOf c).length = 8 := h1.1
    rw [List.getD_eq_getElem?_getD, List.getElem?_eq_none (by omega)]; decide
/-- What a shape says. -/
def saysL (c : Int) (r : List Int) : List Int := (List.range 8).map fun b => (rowOf c.toNat).getD b 0 + 128 * r.getD b 0
theorem saysL_length (c : Int) (r : List Int) : (saysL c r).length = 8 := by simp [saysL]
theorem saysL_at (c : Int) (r : List Int) {b : Nat} (h : b < 8) : (saysL c r).getD b 0 = (rowOf c.toNat).getD b 0 + 128 * r.getD b 0 := by
  rw [saysL, List.getD_eq_getElem?_getD, List.getElem?_map, List.getElem?_range h]; rfl
theorem wpList_build_to {P : Program} {ops : Array Oper} {rest : List Oper} {o : Oper} {a : Act} {w : World} {Q : Exit → Act → World → Prop} (hg : o.guard = none) (t : TypeId) (parts : Array (Nat × Operand)) (ho : o.op = .build t parts) (cells : Array Value)
    (hf : P.built t (parts.map fun (i, x) => (i, a.eval x)).toList = some cells)
    (h : wpList P ops Q rest (a.put o.dst (.agg cells)) w) : wpList P ops Q (o :: rest) a w :=
  wpList_build hg t parts ho (by rw [hf]; rfl) (by rw [hf]; exact h)
set_option maxRecDepth 100000 in
theorem shape_book.calls (w : World) : Calls Try.prog 58 #[] w fun e w' => e = .returned (.agg bookC) ∧ Below w.heap.size w w' := by
  go_enter Try.func58, Try.ntmps58
  iterate 8 go_step
  rename_i K h
  refine h _ _ ?_
  clear h
  iterate 2 go_step
  refine wpList_build_to rfl 49 _ rfl (nums .i64 (rowOf 0)).toArray (by kernel_rfl) ?_
  refine wpList_build_to rfl 49 _ rfl (nums .i64 (rowOf 1)).toArray (by kernel_rfl) ?_
  refine wpList_build_to rfl 49 _ rfl (nums .i64 (rowOf 2)).toArray (by kernel_rfl) ?_
  refine wpList_build_to rfl 49 _ rfl (nums .i64 (rowOf 3)).toArray (by kernel_rfl) ?_
  refine wpList_build_to rfl 49 _ rfl (nums .i64 (rowOf 4)).toArray (by kernel_rfl) ?_
  refine wpList_build_to rfl 49 _ rfl (nums .i64 (rowOf 5)).toArray (by kernel_rfl) ?_
  refine wpList_build_to rfl 49 _ rfl (nums .i64 (rowOf 6)).toArray (by kernel_rfl) ?_
  refine wpList_build_to rfl 49 _ rfl (nums .i64 (rowOf 7)).toArray (by kernel_rfl) ?_
  refine wpList_build_to rfl 49 _ rfl (nums .i64 (rowOf 8)).toArray (by kernel_rfl) ?_
  refine wpList_build_to rfl 49 _ rfl (nums .i64 (rowOf 9)).toArray (by kernel_rfl) ?_
  refine wpList_build_to rfl 49 _ rfl (nums .i64 (rowOf 10)).toArray (by kernel_rfl) ?_
  refine wpList_build_to rfl 49 _ rfl (nums .i64 (rowOf 11)).toArray (by kernel_rfl) ?_
  refine wpList_build_to rfl 49 _ rfl (nums .i64 (rowOf 12)).toArray (by kernel_rfl) ?_
  refine wpList_build_to rfl 49 _ rfl (nums .i64 (rowOf 13)).toArray (by kernel_rfl) ?_
  refine wpList_build_to rfl 49 _ rfl (nums .i64 (rowOf 14)).toArray (by kernel_rfl) ?_
  refine wpList_build_to rfl 49 _ rfl (nums .i64 (rowOf 15)).toArray (by kernel_rfl) ?_
  refine wpList_build_to rfl 100 _ rfl bookC (by kernel_rfl) ?_
  refine wpList_store_row rfl 100 (.tmp 0) (.tmp 17) rfl w.heap.size bookC (by kernel_rfl) (by kernel_rfl) 100 Try.zeroCells100 (blk_new w _) (by kernel_rfl) (by kernel_rfl) (by kernel_rfl) ?_
  have HB := Aside0.mk (below_setRow (below_alloc (Below.refl w.heap.size w) (.cells Try.zeroCells100 100)) (Nat.le_refl _) bookC)
  have HX := Aside0.mk (setRow_heap (w.alloc (.cells Try.zeroCells100 100)) w.heap.size Try.zeroCells100 bookC 100 (0, 0) (blk_new w _))
  generalize (w.alloc (.cells Try.zeroCells100 100)).setRow w.heap.size bookC = w2 at HB HX ⊢
  iterate 2 go_step
  rename_i h
  refine h _ _ ?_
  clear h
  go_step
  exact bodyPost_ret (results_cell_row rfl _ _ w.heap.size 100 bookC (0, 0) _ (by kernel_rfl) HX.out Try.underlying100 (by kernel_rfl) (by kernel_rfl)) (by kernel_rfl) ⟨rfl, HB.out⟩
set_option maxRecDepth 100000 in
theorem shape_Says.calls (c : Int) (r : List Int) (hr : r.length = 8) (hk : okShape c r) (w : World) : Calls Try.prog 36 #[shapeV c r] w fun e w' => ∃ A, e = .returned (.tuple #[.slice A 8 8, .int .i64 0]) ∧ w'.ownsRow w.heap.size 21 1 (.slice A 8 8) 8 (nums .i32 (saysL c r)) ∧ Below w.heap.size w w' := by
  have HCH := Aside0.mk (fun w_ => shape_Check.calls c r hr 0 ⟨by rw [if_pos hk]⟩ w_)
  have hb0 := hk.1.1
  have hb1 := hk.1.2
  have HK := Aside0.mk hk
  have HSA := Aside0.mk (fun (b : Nat) (h : b < 8) => saysL_at c r h)
  have HSL := Aside0.mk (saysL_length c r)
  have hmo : ∀ W : World, (Instr.makeSlice 41 (.int .i64 8) (.int .i64 8)).run Try.prog W = .ok (.slice (some ⟨W.heap.size, 0, none⟩) 8 8) (W.alloc (.cells (madeCells #[.int .i32 0] 8) 21)) := print_make 41 21 .i32 4 Try.underlying41 info_i32 (by decide) 8 (by omega)
  have hrow := fun w_ => book_row c hb0 hb1 w_
  have HRI := Aside0.mk (index_arr (rowOf c.toNat) (rowOf_small c.toNat (by omega)).1)
  have HRS := Aside0.mk (rowOf_small c.toNat (by omega)).2
  generalize saysL c r = O at HSA HSL ⊢
  obtain ⟨r0, r1, r2, r3, r4, r5, r6, r7, rfl⟩ := eight hr
  clear hr hk
  have HBB := Aside0.mk (below_alloc (Below.refl w.heap.size w) (.cells #[.int .i64 c, .int .i64 r0, .int .i64 r1, .int .i64 r2, .int .i64 r3, .int .i64 r4, .int .i64 r5, .int .i64 r6, .int .i64 r7] 51))
  have HBX := Aside0.mk (blk_new w (.cells #[.int .i64 c, .int .i64 r0, .int .i64 r1, .int .i64 r2, .int .i64 r3, .int .i64 r4, .int .i64 r5, .int .i64 r6, .int .i64 r7] 51))
  unfold shapeV
  simp only [nums, List.map]
  go_enter Try.func36, Try.ntmps36
  go_wp2_with (first | (go_at_call 38; refine (HCH.out _).mono ?_; rintro e w1 ⟨rfl, hb1_⟩; have HB1 := Aside0.mk (below_step HBB.out hb1_); have HX1 := Aside0.mk (box_later HBX.out hb1_); clear hb1_))
  have HB2 := Aside0.mk (below_alloc HB1.out (.cells (madeCells #[.int .i32 0] 8) 21))
  have HX2 := Aside0.mk (box_later HX1.out (below_alloc (Below.refl w1.heap.size w1) (.cells (madeCells #[.int .i32 0] 8) 21)))
  have HO2 := Aside0.mk (blk_new w1 (.cells (madeCells #[.int .i32 0] 8) 21))
  have HGE := Aside0.mk (below_size HB1.out)
  have HNE := Aside0.mk (blk_lt HX1.out)
  generalize w1.alloc (.cells (madeCells #[.int .i32 0] 8) 21) = w2 at HB2 HX2 HO2 ⊢
  generalize w1.heap.size = go_ at HO2 HGE HNE ⊢
  clear HB1 HX1 hmo HBB HBX HCH
  have hc2 : w2.cell? ⟨w.heap.size, 0, none⟩ = some (.int .i64 c) := by rw [blk_cell HX2.out]; rfl
  have HB2d := Aside0.mk (below_drew HB2.out)
  have HX2d : Aside0 (w2.drew.heap[w.heap.size]? = _) := ⟨HX2.out⟩
  have HO2d : Aside0 (w2.drew.heap[go_]? = _) := ⟨HO2.out⟩
  have hc3 : w2.drew.cell? ⟨w.heap.size, 0, none⟩ = some (.int .i64 c) := hc2
  go_region_held3 (fun w' => w'.cell? ⟨w.heap.size, 0, none⟩ = some (.int .i64 c)) (first | exact hc2 | exact hc3 | exact hc4)
    (first | (go_at_call 58; refine (shape_book.calls _).mono ?_; rintro e w3 ⟨rfl, hb3_⟩; have HB3 := Aside0.mk (below_step HB2d.out hb3_); have HX3 := Aside0.mk (box_later HX2d.out hb3_); have HO3 := Aside0.mk (box_later HO2d.out hb3_); have hc4 : w3.cell? ⟨w.heap.size, 0, none⟩ = some (.int .i64 c) := (by rw [blk_cell HX3.out]; rfl); clear hb3_))
  clear HB2 HX2 HO2 HB2d HX2d HO2d hc2 hc3 hc4 hrow
  try clear hHeld
  go_wp2
  go_loopg [6, 7, 18, 19, 20, 21, 22, 23, 24, 25, 26, 27, 28, 29, 30, 31, 32, 33] 8 (fun kq v6 v7 v18 v19 v20 v21 v22 v23 v24 v25 v26 v27 v28 v29 v30 v31 v32 v33 wx => ∃ i : Nat, v18 = .int .i64 (i : Int) ∧ Aside0 (kq + i = 8) ∧ Aside0 (wx.heap[w.heap.size]? = some (.cells #[.int .i64 c, .int .i64 r0, .int .i64 r1, .int .i64 r2, .int .i64 r3, .int .i64 r4, .int .i64 r5, .int .i64 r6, .int .i64 r7] 51 (0, 0))) ∧ Aside0 (wx.heap[go_]? = some (.cells (nums .i32 (O.take i ++ List.replicate (8 - i) 0)).toArray 21 (0, 0))) ∧ Aside0 (Below w.heap.size w wx))
  case atStart => exact ⟨0, rfl, ⟨rfl⟩, ⟨HX3.out⟩, ⟨by rw [HO3.out, made_nums]; rfl⟩, ⟨HB3.out⟩⟩
  case round =>
    clear HX3 HO3 HB3
    obtain ⟨i, rfl, HI, HX, HO, HB⟩ := hrel
    by_cases hi : i < 8
    · have hi0 : (0 : Int) ≤ i := by omega
      have hi8 : (i : Int) < 8 := by omega
      have hx := fun w_ => HRI.out (i : Int) hi0 hi8 w_
      simp only [Int.toNat_natCast] at hx
      have hxb := HRS.out i
      have hoe := HSA.out i hi
      generalize (rowOf c.toNat).getD i 0 = x at hx hxb hoe
      have hy : wr.cell? ⟨w.heap.size, 1 + i, none⟩ = some (.int .i64 ([r0, r1, r2, r3, r4, r5, r6, r7].getD i 0)) := by
        have hc : i = 0 ∨ i = 1 ∨ i = 2 ∨ i = 3 ∨ i = 4 ∨ i = 5 ∨ i = 6 ∨ i = 7 := by omega
        rcases hc with rfl | rfl | rfl | rfl | rfl | rfl | rfl | rfl <;> (rw [blk_cell HX.out]; rfl)
      have hyb := HK.out.2 i hi
      generalize [r0, r1, r2, r3, r4, r5, r6, r7].getD i 0 = y at hy hyb hoe
      have hoc := nums_at HO.out (i := i) (by rw [List.length_append, List.length_take, List.length_replicate, HSL.out]; omega)
      have hof : wr.frozen? ⟨go_, i, none⟩ = false := blk_frozen HO.out i
      have HII := Aside0.mk hi
      have HOE := Aside0.mk hoe
      clear hoe
      go_wp2
      rw [← HOE.out]
      obtain ⟨g0, rfl⟩ : ∃ g0, gk = g0 + 1 := ⟨gk - 1, by have := HI.out; omega⟩
      go_roundg g0
      case measure => omega
      case rel => exact ⟨i + 1, by first | rfl | (congr 1; push_cast; rfl), ⟨by have := HI.out; omega⟩, ⟨(Below.heap_setCell _ _ _ _ (by have := HNE.out; dsimp; omega)).trans HX.out⟩, ⟨by rw [blk_store HO.out i, set_next HII.out HSL.out]⟩, ⟨below_set HB.out HGE.out⟩⟩
    · obtain rfl : i = 8 := by have := HI.out; omega
      have hwide : wr.heap[go_]? = some (.cells (nums .i32 O).toArray 21 (0, 0)) := by
        rw [HO.out, Nat.sub_self, List.replicate_zero, List.append_nil, List.take_of_length_le (by rw [HSL.out]; exact Nat.le_refl _)]
      have HW := Aside0.mk hwide
      clear hwide
      go_wp2
      exact bodyPost_ret (v := .tuple #[.slice (some ⟨go_, 0, none⟩) 8 8, .int .i64 0]) (by simp [results, Try.results36, go_sem]) rfl ⟨_, rfl, own_of_blk HGE.out HW.out HSL.out (by unfold maxLen; omega), HB.out⟩
theorem shape_Says.no (c : Int) (r : List Int) (hr : r.length = 8) (hk : ¬ okShape c r) (w : World) : Calls Try.prog 36 #[shapeV c r] w fun e w' => e = .returned (.tuple #[.slice none 0 0, .int .i64 1]) ∧ Below w.heap.size w w' := by
  have HCH := Aside0.mk (fun w_ => shape_Check.calls c r hr 1 ⟨by rw [if_neg hk]⟩ w_)
  obtain ⟨r0, r1, r2, r3, r4, r5, r6, r7, rfl⟩ := eight hr
  clear hr hk
  have HBB := Aside0.mk (below_alloc (Below.refl w.heap.size w) (.cells #[.int .i64 c, .int .i64 r0, .int .i64 r1, .int .i64 r2, .int .i64 r3, .int .i64 r4, .int .i64 r5, .int .i64 r6, .int .i64 r7] 51))
  unfold shapeV
  simp only [nums, List.map]
  go_enter Try.func36, Try.ntmps36
  go_wp2_with (first | (go_at_call 38; refine (HCH.out _).mono ?_; rintro e w1 ⟨rfl, hb1_⟩; have HB1 := Aside0.mk (below_step HBB.out hb1_); clear hb1_))
  exact bodyPost_ret (v := .tuple #[.slice none 0 0, .int .i64 1]) (by simp [results, Try.results36, go_sem]) rfl ⟨rfl, HB1.out⟩
end Go.Proofs.Ytblehkoonajofaa.PShape
