/- Tns: the words of the walks, and what a filter is. -/
import Derived.Test.YtblehkoonajofaaPTnsx0
import Derived.Test.YtblehkoonajofaaPTnsx1
import Derived.Test.YtblehkoonajofaaPTnsx2
import Derived.Test.YtblehkoonajofaaPTnsx3
import Derived.WalkSpells
import Derived.Outline
import Derived.Deep.LoopGhost
import Derived.Deep.RegionLaw
import Derived.Deep.RegionWith
import Derived.Deep.RegionHeld3
import Derived.Deep.MidRow
import Derived.StillTailTactics
import Derived.Lib.SliceRun
import Derived.Laws.CopyOwn
import Derived.ChangeKeysEq
import Derived.Test.YtblehkoonajofaaWZeros
import Derived.Test.YtblehkoonajofaaRowAt
import Derived.Test.YtblehkoonajofaaNum
namespace Go.Proofs.Ytblehkoonajofaa.PTns
open Go.RowKit Go.Proofs.YtblehkoonajofaaW.PrintWords Go.Proofs.YtblehkoonajofaaW.PrintLast Go.Proofs.YtblehkoonajofaaW.PrintMore Go.Proofs.Ytblehkoonajofaa.RowAt
attribute [local go_sem] max2_int min2_int max_two min_two max_three min_three max_four min_four   -- for this text's walks alone
set_option linter.unusedVariables false
set_option linter.unusedSimpArgs false
theorem own_lower {w : World} {base b2 n : Nat} {e : TypeId} {size : Nat} {v : Value} {xs : List Value} (h : w.ownsRow base e size v n xs) (hb : b2 ≤ base) : w.ownsRow b2 e size v n xs := by
  obtain ⟨h1, h2⟩ := h
  refine ⟨h1, ?_⟩
  rcases h2 with h2 | ⟨g, cap, cur, rfl, hg, r⟩
  · exact .inl h2
  · exact .inr ⟨g, cap, cur, rfl, Nat.le_trans hb hg, r⟩
theorem two_new (w : World) (o1 o2 : Obj) : ((w.alloc o1).alloc o2).heap[w.heap.size]? = some o1 ∧ ((w.alloc o1).alloc o2).heap[w.heap.size + 1]? = some o2 := by
  constructor
  · rw [(below_alloc (Below.refl (w.alloc o1).heap.size (w.alloc o1)) o2).block _ (by rw [World.size_alloc]; omega)]; exact heap_alloc_new w o1
  · have h := heap_alloc_new (w.alloc o1) o2
    rwa [World.size_alloc] at h
theorem made_nums (k : IntKind) (m : Nat) : madeCells #[Value.int k 0] m = (nums k (List.replicate m 0)).toArray := by
  apply Array.ext'
  rw [toList_madeCells_one]; simp [nums]
theorem nums_at {w : World} {g ty : Nat} {L : List Int} {k : IntKind} (h : w.heap[g]? = some (.cells (nums k L).toArray ty (0, 0))) {i : Nat} (hi : i < L.length) : w.cell? ⟨g, i, none⟩ = some (.int k (L.getD i 0)) := by
  rw [blk_cell h]
  simp [nums, List.getD_eq_getElem?_getD, List.getElem?_eq_getElem hi]
theorem wrap64_nat1 {n : Nat} (h : n ≤ 1000000) : wrap64 ((n : Int) + 1) = ((n + 1 : Nat) : Int) := by unfold wrap64; omega
theorem blk_store {w : World} {g ty : Nat} {L : List Int} {k : IntKind} (h : w.heap[g]? = some (.cells (nums k L).toArray ty (0, 0))) (i : Nat) (v : Int) : (w.setCell ⟨g, i, none⟩ (.int k v)).heap[g]? = some (.cells (nums k (L.set i v)).toArray ty (0, 0)) := by
  rw [blk_set h i _]
  congr 2
  simp [nums]
theorem set_next {x : List Int} {n i : Nat} (hi : i < n) (hn : x.length = n) : (x.take i ++ List.replicate (n - i) 0).set i (x.getD i 0) = x.take (i + 1) ++ List.replicate (n - (i + 1)) 0 := by
  have h1 : (x.take i).length = i := by rw [List.length_take]; omega
  obtain ⟨m, hm⟩ : ∃ m, n - i = m + 1 := ⟨n - i - 1, by omega⟩
  rw [hm, List.replicate_succ, List.set_append_right _ _ (by omega), h1, Nat.sub_self, List.set_cons_zero, show n - (i + 1) = m by omega, List.take_add_one, List.getElem?_eq_getElem (by omega), List.getD_eq_getElem?_getD, List.getElem?_eq_getElem (by omega), List.append_assoc]
  rfl
theorem own_reads' {w : World} {base n c : Nat} {A : Option Addr} {e : TypeId} {k : IntKind} {xs : List Int} (h : w.ownsRow base e 1 (.slice A n c) n (nums k xs)) : ReadsInt w k A n xs := by
  obtain ⟨A', c', e, hr⟩ := own_reads h
  cases e; exact hr
theorem own_cap {w : World} {base n c : Nat} {e : TypeId} {A : Option Addr} {xs : List Value} (h : w.ownsRow base e 1 (.slice A n c) n xs) : n ≤ c := by
  rcases h.2 with ⟨h, _⟩ | ⟨g, cap, cur, h, _, _, hc, _⟩
  · cases h; exact Nat.le_refl _
  · cases h; exact hc
theorem blk_reads {w : World} {g ty : Nat} {L : List Int} {k : IntKind} {n : Nat} (h : w.heap[g]? = some (.cells (nums k L).toArray ty (0, 0))) (hn : L.length = n) (hm : n ≤ 9223372036854775807) : ReadsInt w k (some ⟨g, 0, none⟩) n L :=
  ⟨hn, hm, fun _ => ⟨_, rfl, fun j hj => by rw [add_plain]; exact nums_at h (by omega)⟩⟩
theorem own_of_blk {w : World} {base g n ty : Nat} {k : IntKind} {L : List Int} (hb : base ≤ g) (h : w.heap[g]? = some (.cells (nums k L).toArray ty (0, 0))) (hn : L.length = n) (hm : n ≤ maxLen) : w.ownsRow base ty 1 (.slice (some ⟨g, 0, none⟩) n n) n (nums k L) :=
  ⟨by rw [nums_length, hn, Nat.mul_one], .inr ⟨g, n, _, rfl, hb, h, Nat.le_refl _, hm, by simp [nums, hn], by simp [nums]; rw [List.take_of_length_le (by simp [hn])]⟩⟩
theorem wrap64_range (n : Int) : -9223372036854775808 ≤ wrap64 n ∧ wrap64 n ≤ 9223372036854775807 := by unfold wrap64; omega
theorem own_C {w : World} {base n c : Nat} {e : TypeId} {k : IntKind} {A : Option Addr} {xs : List Int} (h : w.ownsRow base e 1 (.slice A n c) xs.length (nums k xs)) : Kd.C (Kd.int k) w A xs.length xs := by
  have hr : Kd.R (Kd.int k) e w base (fun _ => True) (.slice A n c) xs := Kd.R_of_own h (fun _ _ => trivial)
  obtain ⟨A', c', e⟩ := Kd.R_slice hr
  cases e
  exact (Kd.R_reads' hr).2.2
theorem reads_below {w wx : World} {k : IntKind} {A : Option Addr} {n : Nat} {x : List Int} (h : ReadsInt w k A n x) (hb : Below w.heap.size w wx) : ReadsInt wx k A n x := h.below hb
theorem box_later {wx wy : World} {g : Nat} {o : Obj} (h : wx.heap[g]? = some o) (hb : Below wx.heap.size wx wy) : wy.heap[g]? = some o := (hb.block g (blk_lt h)).trans h
theorem own_vs {w : World} {B B' e e' size size' n n' : Nat} {v v' : Value} {xs xs' : List Value} (h : w.ownsRow B e size v n xs) (h' : w.ownsRow B' e' size' v' n' xs') (hne : e ≠ e') : v.ownBlock = none ∨ v.ownBlock ≠ v'.ownBlock := by
  rcases h.2 with ⟨rfl, _⟩ | ⟨g, cap, cur, rfl, _, hgg, _⟩
  · exact .inl rfl
  · exact .inr (own_ne h' hgg (Ne.symm hne))
theorem take_next {h : List Int} {i : Nat} (hi : i < h.length) : h.take i ++ [h.getD i 0] = h.take (i + 1) := by
  rw [List.take_add_one, List.getElem?_eq_getElem hi, List.getD_eq_getElem?_getD, List.getElem?_eq_getElem hi]; rfl
theorem mix_at {L h : List Int} {j n : Nat} (hj : j < n) (hL : L.length = n) (hh : h.length = n) : (L.take j ++ h.drop j).getD j 0 = h.getD j 0 := by
  rw [List.getD_eq_getElem?_getD, List.getElem?_append_right (by rw [List.length_take]; omega), List.length_take, Nat.min_eq_left (by omega), Nat.sub_self, List.getElem?_drop, List.getD_eq_getElem?_getD]; rfl
theorem mix_set {L h : List Int} {j n : Nat} (hj : j < n) (hL : L.length = n) (hh : h.length = n) : (L.take j ++ h.drop j).set j (L.getD j 0) = L.take (j + 1) ++ h.drop (j + 1) := by
  apply List.ext_getElem?
  intro m
  rw [List.getElem?_set]
  by_cases e : j = m
  · subst e
    rw [if_pos rfl, if_pos (by rw [List.length_append, List.length_take, List.length_drop]; omega), List.getElem?_append_left (by rw [List.length_take]; omega), List.getElem?_take, if_pos (by omega), List.getD_eq_getElem?_getD, List.getElem?_eq_getElem (by omega)]; rfl
  · rw [if_neg e]
    by_cases e2 : m < j
    · rw [List.getElem?_append_left (by rw [List.length_take]; omega), List.getElem?_append_left (by rw [List.length_take]; omega), List.getElem?_take, List.getElem?_take, if_pos e2, if_pos (by omega)]
    · rw [List.getElem?_append_right (by rw [List.length_take]; omega), List.getElem?_append_right (by rw [List.length_take]; omega), List.length_take, List.length_take, List.getElem?_drop, List.getElem?_drop, Nat.min_eq_left (by omega), Nat.min_eq_left (by omega)]
      congr 1; omega
theorem cons_at {v : Value} {L : List Int} {j : Nat} (hj : j < L.length) : (v :: nums .i64 L).toArray[j + 1]? = some (.int .i64 (L.getD j 0)) := by
  rw [List.getElem?_toArray, List.getElem?_cons_succ, nums, List.getElem?_map, List.getElem?_eq_getElem hj, List.getD_eq_getElem?_getD, List.getElem?_eq_getElem hj]; rfl
theorem own_Cn {w : World} {base n c : Nat} {e : TypeId} {k : IntKind} {A : Option Addr} {xs : List Int} (h : w.ownsRow base e 1 (.slice A n c) n (nums k xs)) (hl : xs.length = n) : Kd.C (Kd.int k) w A n xs := by
  subst hl
  exact own_C h
theorem four {a : List Int} (h : a.length = 4) : ∃ a0 a1 a2 a3, a = [a0, a1, a2, a3] := by
  match a, h with
  | [a0, a1, a2, a3], _ => exact ⟨a0, a1, a2, a3, rfl⟩
theorem index4 (a0 a1 a2 a3 : Int) (i : Nat) (h : i < 4) (w : World) : (Instr.index 58 (.agg #[.int .i64 a0, .int .i64 a1, .int .i64 a2, .int .i64 a3]) (.int .i64 (i : Int))).run Try.prog w = .ok (.int .i64 ([a0, a1, a2, a3].getD i 0)) w := by
  have at0 : ∀ w_ : World, (Instr.index 58 (.agg #[.int .i64 a0, .int .i64 a1, .int .i64 a2, .int .i64 a3]) (.int .i64 0)).run Try.prog w_ = .ok (.int .i64 a0) w_ := fun _ => by kernel_rfl
  have at1 : ∀ w_ : World, (Instr.index 58 (.agg #[.int .i64 a0, .int .i64 a1, .int .i64 a2, .int .i64 a3]) (.int .i64 1)).run Try.prog w_ = .ok (.int .i64 a1) w_ := fun _ => by kernel_rfl
  have at2 : ∀ w_ : World, (Instr.index 58 (.agg #[.int .i64 a0, .int .i64 a1, .int .i64 a2, .int .i64 a3]) (.int .i64 2)).run Try.prog w_ = .ok (.int .i64 a2) w_ := fun _ => by kernel_rfl
  have at3 : ∀ w_ : World, (Instr.index 58 (.agg #[.int .i64 a0, .int .i64 a1, .int .i64 a2, .int .i64 a3]) (.int .i64 3)).run Try.prog w_ = .ok (.int .i64 a3) w_ := fun _ => by kernel_rfl
  have hc : i = 0 ∨ i = 1 ∨ i = 2 ∨ i = 3 := by omega
  rcases hc with rfl | rfl | rfl | rfl
  · exact at0 w
  · exact at1 w
  · exact at2 w
  · exact at3 w
/-- A filter's value. -/
def filtV (on : Int) (x : List Int) : Value := .agg (.int .i64 on :: nums .i64 x).toArray
theorem filtV_eq (on a0 a1 a2 a3 : Int) : filtV on [a0, a1, a2, a3] = .agg #[.int .i64 on, .int .i64 a0, .int .i64 a1, .int .i64 a2, .int .i64 a3] := rfl
def idxUpto (on : Int) (x : List Int) (k : Nat) : Prop := ∀ j, j < k → 0 ≤ x.getD j 0 ∧ x.getD j 0 ≤ 16 * on
def okFilt (on : Int) (x : List Int) : Prop := (on = 0 ∨ on = 1) ∧ idxUpto on x 4
instance (on : Int) (x : List Int) (k : Nat) : Decidable (idxUpto on x k) := by unfold idxUpto; infer_instance
instance (on : Int) (x : List Int) : Decidable (okFilt on x) := by unfold okFilt; infer_instance
theorem idxUpto_succ {on : Int} {x : List Int} {k : Nat} : idxUpto on x (k + 1) ↔ idxUpto on x k ∧ (0 ≤ x.getD k 0 ∧ x.getD k 0 ≤ 16 * on) := by
  constructor
  · intro h; exact ⟨fun j hj => h j (by omega), h k (by omega)⟩
  · rintro ⟨h1, h2⟩ j hj
    by_cases e : j = k
    · subst e; exact h2
    · exact h1 j (by omega)
theorem tns_Check.calls (on : Int) (x : List Int) (hx : x.length = 4) (q : Int) (hq : Aside0 (q = if okFilt on x then 0 else 1)) (w : World) : Calls Try.prog 32 #[filtV on x] w fun e w' => e = .returned (.int .i64 q) ∧ Below w.heap.size w w' := by
  obtain ⟨a0, a1, a2, a3, rfl⟩ := four hx
  clear hx
  have HI := Aside0.mk (index4 a0 a1 a2 a3)
  have HBB := Aside0.mk (below_alloc (Below.refl w.heap.size w) (.cells #[.int .i64 on, .int .i64 a0, .int .i64 a1, .int .i64 a2, .int .i64 a3] 60))
  have HBX := Aside0.mk (blk_new w (.cells #[.int .i64 on, .int .i64 a0, .int .i64 a1, .int .i64 a2, .int .i64 a3] 60))
  rw [filtV_eq]
  go_enter Try.func32, Try.ntmps32
  by_cases h0 : on = 0 ∨ on = 1
  · have HQ : Aside0 (q = if idxUpto on [a0, a1, a2, a3] 4 then 0 else 1) := ⟨by rw [hq.out]; by_cases h : idxUpto on [a0, a1, a2, a3] 4 <;> simp [okFilt, h, h0]⟩
    have hw : IntKind.i64.wrap (16 * on) = 16 * on := by rcases h0 with rfl | rfl <;> decide
    have hb : (on != 0 && on != 1) = false := by rcases h0 with rfl | rfl <;> decide
    have HW := Aside0.mk hw
    have HON := Aside0.mk h0
    have hg : (on != 0) = true → (on != 1) = false := by intro h; rcases h0 with rfl | rfl; exact absurd h (by decide); decide
    clear hq h0 hw
    have key : (∃ b : Bool, (on != 0) = b ∧ (b = true → (on != 1) = false)) := ⟨_, rfl, hg⟩
    obtain ⟨b, hb0, hb1⟩ := key
    clear hb hg
    cases b
    all_goals
      try have hb2 := hb1 rfl
      clear hb1
      go_wp2
      change Code.wp _ _ _ _ (w.alloc (.cells #[.int .i64 on, .int .i64 a0, .int .i64 a1, .int .i64 a2, .int .i64 a3] 60))
      generalize w.alloc (.cells #[.int .i64 on, .int .i64 a0, .int .i64 a1, .int .i64 a2, .int .i64 a3] 60) = w2 at HBB HBX ⊢
      have hon : w2.cell? ⟨w.heap.size, 0, none⟩ = some (.int .i64 on) := by rw [blk_cell HBX.out]; rfl
      go_loopg [2, 4, 15, 16, 17, 18, 19, 20, 21, 22, 23, 24, 25, 26, 27] 4 (fun kq v2 v4 v15 v16 v17 v18 v19 v20 v21 v22 v23 v24 v25 v26 v27 wx => ∃ i : Nat, kq + i = 4 ∧ v15 = .int .i64 (i : Int) ∧ v2 = .int .i64 0 ∧ Aside0 (idxUpto on [a0, a1, a2, a3] i) ∧ Aside0 (wx = w2))
      case atStart => exact ⟨0, rfl, rfl, rfl, ⟨fun j hj => by omega⟩, ⟨rfl⟩⟩
      case round =>
        obtain ⟨i, hki, rfl, rfl, HU, HE⟩ := hrel
        obtain rfl := HE.out
        clear HE
        by_cases hi : i < 4
        · have hi0 : (0 : Int) ≤ i := by omega
          have hi8 : (i : Int) < 4 := by omega
          have hx := fun w_ => HI.out i hi w_
          obtain ⟨x, hxe⟩ : ∃ x, x = [a0, a1, a2, a3].getD i 0 := ⟨_, rfl⟩
          rw [← hxe] at hx
          have HXE := Aside0.mk hxe
          have hw := HW.out
          obtain ⟨m, hm⟩ : ∃ m, m = 16 * on := ⟨_, rfl⟩
          rw [← hm] at hw
          have hw' : wrap64 (16 * on) = m := by rw [← i64_w, ← hm]; exact hw
          have HM := Aside0.mk hm
          clear hxe hm
          by_cases g1 : x < 0
          · go_wp2
            exact bodyPost_ret (v := .int .i64 1) (by simp [results, Try.results32, go_sem]) rfl ⟨by rw [HQ.out, if_neg (fun h => by have := (h i hi).1; rw [← HXE.out] at this; omega)], HBB.out⟩
          by_cases g2 : x > m
          · go_wp2
            exact bodyPost_ret (v := .int .i64 1) (by simp [results, Try.results32, go_sem]) rfl ⟨by rw [HQ.out, if_neg (fun h => by have := (h i hi).2; rw [← HXE.out, ← HM.out] at this; omega)], HBB.out⟩
          go_wp2
          obtain ⟨g0, rfl⟩ : ∃ g0, gk = g0 + 1 := ⟨gk - 1, by omega⟩
          go_roundg g0
          case measure => omega
          case rel => exact ⟨i + 1, by omega, by first | rfl | (congr 1; push_cast; rfl), rfl, ⟨idxUpto_succ.2 ⟨HU.out, by rw [← HXE.out, ← HM.out]; omega⟩⟩, ⟨rfl⟩⟩
        · obtain rfl : i = 4 := by omega
          go_wp2
          exact bodyPost_ret (v := .int .i64 0) (by simp [results, Try.results32, go_sem]) rfl ⟨by rw [HQ.out, if_pos HU.out], HBB.out⟩
  · have h1 : (on != 0) = true := by simp; exact fun h => h0 (.inl h)
    have h2 : (on != 1) = true := by simp; exact fun h => h0 (.inr h)
    go_wp2
    exact bodyPost_ret (v := .int .i64 1) (by simp [results, Try.results32, go_sem]) rfl ⟨by rw [hq.out, if_neg (fun h => h0 h.1)], HBB.out⟩
end Go.Proofs.Ytblehkoonajofaa.PTns
