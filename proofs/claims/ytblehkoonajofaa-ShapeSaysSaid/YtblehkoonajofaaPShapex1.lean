/- Contracts of the functions that the law Shape reaches: each Go function as a Lean function, and that the Go text comes to it. Written by programs (wip/tools), out of the program's own loaded form. -/
import Derived.Test.YtblehkoonajofaaPShapex0
import Derived.WalkSpells
import Derived.StillTailTactics
import Derived.Lib.SliceRun
namespace Go.Proofs.Ytblehkoonajofaa.PShape
open Go.RowKit Go.Proofs.YtblehkoonajofaaW.PrintWords Go.Proofs.YtblehkoonajofaaW.PrintLast Go.Proofs.YtblehkoonajofaaW.PrintMore
attribute [local go_sem] max2_int min2_int max_two min_two max_three min_three max_four min_four   -- for this text's walks alone
set_option linter.unusedVariables false
set_option linter.unusedSimpArgs false

/-! ### band_energy: function 106 -/
def band_energy.l0 : Nat → Int → List Int → Int → Int → Option (Int)
  | 0, _, _, _, _ => none
  | k + 1, x3, x7, x8, x9 => if x9 < x8 then (if 0 ≤ x9 then (if x9 < (x7.length : Int) then (band_energy.l0 k (IntKind.u64.wrap (x3 + (IntKind.u64.wrap (wrap64 ((wrap64 (Int.tdiv (mx (wrap64 (rd x7 x9)) (wrap64 (-(wrap64 (rd x7 x9))))) 8)) * (wrap64 (Int.tdiv (mx (wrap64 (rd x7 x9)) (wrap64 (-(wrap64 (rd x7 x9))))) 8))))))) x7 x8 (wrap64 (x9 + 1))) else (none)) else (none)) else (some x3)
def band_energy.f (k : Nat) (l0 : List Int) : Option (Int) := band_energy.l0 k 0 l0 (l0.length : Int) 0
theorem band_energy.mono_l : ∀ k, (∀ y0 y1 y2 y3, LeO (band_energy.l0 k y0 y1 y2 y3) (band_energy.l0 (k + 1) y0 y1 y2 y3))
  | 0 => fun _ _ _ _ r h => by simp [band_energy.l0] at h
  | k + 1 => by
    have ih0 := band_energy.mono_l k
    · intro y0 y1 y2 y3
      unfold band_energy.l0
      repeat' first
      | (with_reducible exact ih0 _ _ _ _)
      | (with_reducible exact LeO.refl _)
      | (with_reducible exact LeO.none _)
      | (with_reducible refine LeO.ite ?_ ?_)
      | (with_reducible refine LeO.bind ?_ (fun _ => ?_))
      | exact ih0 _ _ _ _
      | exact LeO.none _
      | refine LeO.ite ?_ ?_
      | refine LeO.bind ?_ (fun _ => ?_)
theorem band_energy.mono : ∀ a0 k, LeO (band_energy.f k a0) (band_energy.f (k + 1) a0) := by
  intro a0 k
  have ih0 := band_energy.mono_l k
  unfold band_energy.f
  repeat' first
      | (with_reducible exact ih0 _ _ _ _)
      | (with_reducible exact LeO.refl _)
      | (with_reducible exact LeO.none _)
      | (with_reducible refine LeO.ite ?_ ?_)
      | (with_reducible refine LeO.bind ?_ (fun _ => ?_))
      | exact ih0 _ _ _ _
      | exact LeO.none _
      | refine LeO.ite ?_ ?_
      | refine LeO.bind ?_ (fun _ => ?_)
set_option maxHeartbeats 8000000 in
set_option maxRecDepth 100000 in
theorem band_energy.same (k : Nat) (A0 : Option Addr) (c0 : Nat) (l0 : List Int) (r : Int) (w : World) (hr0 : Kd.C (Kd.int .i32) w A0 l0.length l0) (hc0 : l0.length ≤ c0) (h : band_energy.f k l0 = some r) :
    Calls Try.prog 106 #[.slice A0 l0.length c0] w fun e w' => e = .returned (.int .u64 r) ∧ w' = w := by
  have HR0 := Aside0.mk hr0
  have HC0 := Aside0.mk hc0
  clear hr0 hc0
  have H : (band_energy.l0 k 0 l0 (l0.length : Int) 0) = some r := h
  clear h
  have H' := Aside0.mk H
  clear H
  go_enter Try.func106, Try.ntmps106
  go_wp2
  go_loopg [3, 9] k (fun kq v3 v9 w' => ∃ (x3_1 : Int) (x9_1 : Int), v3 = .int .u64 x3_1 ∧ v9 = .int .i64 x9_1 ∧ Aside0 (band_energy.l0 kq x3_1 l0 (l0.length : Int) x9_1 = some r) ∧ Aside0 (kq ≤ k) ∧ w' = w)
  case atStart => exact ⟨(0), (0), (by first | rfl | (simp; done) | (simp [*]; done)), (by first | rfl | (simp; done) | (simp [*]; done)), H', ⟨Nat.le_refl _⟩, rfl⟩
  case round =>
    clear H'
    try clear c1
    obtain ⟨x3_1, x9_1, rfl, rfl, HA, HK1, rfl⟩ := hrel
    cases gk with
    | zero => exact absurd HA.out (by simp [band_energy.l0])
    | succ k1 =>
      have H := HA.out
      clear HA
      simp only [band_energy.l0] at H
      by_cases c2 : x9_1 < (l0.length : Int)
      · rw [if_pos c2] at H
        have c2b0 : decide (x9_1 < (l0.length : Int)) = true := decide_eq_true c2
        clear c2
        by_cases c3 : 0 ≤ x9_1
        · rw [if_pos c3] at H
          have c3b0 : decide (0 ≤ x9_1) = true := decide_eq_true c3
          clear c3
          by_cases c4 : x9_1 < (l0.length : Int)
          · rw [if_pos c4] at H
            have c4b0 : decide (x9_1 < (l0.length : Int)) = true := decide_eq_true c4
            clear c4
            obtain ⟨ji5, hji5⟩ : ∃ j_ : Int, (mx (wrap64 (rd l0 x9_1)) (wrap64 (-(wrap64 (rd l0 x9_1))))) = j_ := ⟨_, rfl⟩
            replace H : (band_energy.l0 k1 (IntKind.u64.wrap (x3_1 + (IntKind.u64.wrap (wrap64 ((wrap64 (Int.tdiv (ji5) 8)) * (wrap64 (Int.tdiv (ji5) 8))))))) l0 (l0.length : Int) (wrap64 (x9_1 + 1))) = some r := by first | (rw [hji5] at H; exact H) | (simp only [hji5] at H ⊢; exact H)
            have hji5_ : (if (wrap64 (rd l0 x9_1)) < (wrap64 (-(wrap64 (rd l0 x9_1)))) then (wrap64 (-(wrap64 (rd l0 x9_1)))) else (wrap64 (rd l0 x9_1))) = ji5 := hji5
            have H' := Aside0.mk H
            clear H
            have p101 : 0 ≤ (x9_1 : Int) := of_decide_eq_true (by first | (with_reducible assumption) | assumption)
            have q101 : x9_1 < (l0.length : Int) := of_decide_eq_true (by first | (with_reducible assumption) | assumption)
            obtain ⟨ad101, e101, hx101_0⟩ := Kd.at_int HR0.out x9_1 p101 q101
            cases e101
            replace p101 := eq_true p101
            replace q101 := eq_true q101
            go_wp2
            go_roundg k1
            case measure => have := HK1.out; omega
            case rel => exact ⟨(IntKind.u64.wrap (x3_1 + (IntKind.u64.wrap (wrap64 ((wrap64 (Int.tdiv (ji5) 8)) * (wrap64 (Int.tdiv (ji5) 8))))))), (wrap64 (x9_1 + 1)), (by first | rfl | (simp; done) | (simp only [← hji5] <;> (first | rfl | simp)) | (simp [*]; done)), (by first | rfl | (simp; done) | (simp [*]; done)), H', ⟨by have := HK1.out; omega⟩, rfl⟩
          · rw [if_neg c4] at H
            exact absurd H (by simp)
        · rw [if_neg c3] at H
          exact absurd H (by simp)
      · rw [if_neg c2] at H
        have c2b0 : decide (x9_1 < (l0.length : Int)) = false := decide_eq_false c2
        clear c2
        obtain rfl := Option.some.inj H
        go_wp2
        go_ret
        exact ⟨by first | rfl | (simp [errW_none, errW_some] <;> rfl) | (simp [*, errW_none, errW_some] <;> rfl), rfl⟩

theorem band_energy.calls (k : Nat) (A0 : Option Addr) (c0 : Nat) (l0 : List Int) (r : Int) (w : World) (hr0 : Kd.C (Kd.int .i32) w A0 l0.length l0) (hc0 : l0.length ≤ c0) (h : band_energy.f k l0 = some r) :
    Calls Try.prog 106 #[.slice A0 l0.length c0] w fun e w' => e = .returned (.int .u64 r) ∧ Below w.heap.size w w' :=
  (band_energy.same k A0 c0 l0 r w hr0 hc0 h).mono fun _ _ ⟨h1, h2⟩ => ⟨h1, by rw [h2]; exact Below.refl _ _⟩

/-! ### band_edges: function 54: the edges of a length, an array -/
def edgesV (n : Int) : List Int := if n = 40 then [0, 2, 4, 7, 11, 16, 23, 31, 40] else if n = 60 then [0, 3, 6, 10, 16, 24, 34, 46, 60] else if n = 80 then [0, 4, 8, 14, 22, 32, 46, 62, 80] else if n = 120 then [0, 6, 12, 21, 33, 48, 69, 93, 120] else []
theorem edges_cases (n : Int) : n = 40 ∨ n = 60 ∨ n = 80 ∨ n = 120 ∨ ((n ≠ 40 ∧ n ≠ 60 ∧ n ≠ 80 ∧ n ≠ 120) ∧ edgesV n = []) := by
  by_cases a : n = 40
  · exact .inl a
  · by_cases b : n = 60
    · exact .inr (.inl b)
    · by_cases c : n = 80
      · exact .inr (.inr (.inl c))
      · by_cases d : n = 120
        · exact .inr (.inr (.inr (.inl d)))
        · exact .inr (.inr (.inr (.inr ⟨⟨a, b, c, d⟩, by unfold edgesV; rw [if_neg a, if_neg b, if_neg c, if_neg d]⟩)))
theorem band_edges.calls40 (w : World) : Calls Try.prog 105 #[.int .i64 40] w fun e w' => e = .returned (.tuple #[.agg #[.int .i64 0, .int .i64 2, .int .i64 4, .int .i64 7, .int .i64 11, .int .i64 16, .int .i64 23, .int .i64 31, .int .i64 40], .bool true]) ∧ Below w.heap.size w w' := by
  go_enter Try.func105, Try.ntmps105
  go_wp2
  exact bodyPost_ret (v := .tuple #[.agg #[.int .i64 0, .int .i64 2, .int .i64 4, .int .i64 7, .int .i64 11, .int .i64 16, .int .i64 23, .int .i64 31, .int .i64 40], .bool true]) (by simp [results, Try.results105, go_sem]) rfl ⟨rfl, below_alloc (Below.refl _ _) _⟩
theorem band_edges.calls60 (w : World) : Calls Try.prog 105 #[.int .i64 60] w fun e w' => e = .returned (.tuple #[.agg #[.int .i64 0, .int .i64 3, .int .i64 6, .int .i64 10, .int .i64 16, .int .i64 24, .int .i64 34, .int .i64 46, .int .i64 60], .bool true]) ∧ Below w.heap.size w w' := by
  go_enter Try.func105, Try.ntmps105
  go_wp2
  exact bodyPost_ret (v := .tuple #[.agg #[.int .i64 0, .int .i64 3, .int .i64 6, .int .i64 10, .int .i64 16, .int .i64 24, .int .i64 34, .int .i64 46, .int .i64 60], .bool true]) (by simp [results, Try.results105, go_sem]) rfl ⟨rfl, below_alloc (Below.refl _ _) _⟩
theorem band_edges.calls80 (w : World) : Calls Try.prog 105 #[.int .i64 80] w fun e w' => e = .returned (.tuple #[.agg #[.int .i64 0, .int .i64 4, .int .i64 8, .int .i64 14, .int .i64 22, .int .i64 32, .int .i64 46, .int .i64 62, .int .i64 80], .bool true]) ∧ Below w.heap.size w w' := by
  go_enter Try.func105, Try.ntmps105
  go_wp2
  exact bodyPost_ret (v := .tuple #[.agg #[.int .i64 0, .int .i64 4, .int .i64 8, .int .i64 14, .int .i64 22, .int .i64 32, .int .i64 46, .int .i64 62, .int .i64 80], .bool true]) (by simp [results, Try.results105, go_sem]) rfl ⟨rfl, below_alloc (Below.refl _ _) _⟩
theorem band_edges.calls120 (w : World) : Calls Try.prog 105 #[.int .i64 120] w fun e w' => e = .returned (.tuple #[.agg #[.int .i64 0, .int .i64 6, .int .i64 12, .int .i64 21, .int .i64 33, .int .i64 48, .int .i64 69, .int .i64 93, .int .i64 120], .bool true]) ∧ Below w.heap.size w w' := by
  go_enter Try.func105, Try.ntmps105
  go_wp2
  exact bodyPost_ret (v := .tuple #[.agg #[.int .i64 0, .int .i64 6, .int .i64 12, .int .i64 21, .int .i64 33, .int .i64 48, .int .i64 69, .int .i64 93, .int .i64 120], .bool true]) (by simp [results, Try.results105, go_sem]) rfl ⟨rfl, below_alloc (Below.refl _ _) _⟩
theorem band_edges.callsNo (n : Int) (h : n ≠ 40 ∧ n ≠ 60 ∧ n ≠ 80 ∧ n ≠ 120) (w : World) : Calls Try.prog 105 #[.int .i64 n] w fun e w' => e = .returned (.tuple #[.agg #[.int .i64 0, .int .i64 0, .int .i64 0, .int .i64 0, .int .i64 0, .int .i64 0, .int .i64 0, .int .i64 0, .int .i64 0], .bool false]) ∧ Below w.heap.size w w' := by
  obtain ⟨h1, h2, h3, h4⟩ := h
  have t1 : (n == 40) = false := beq_eq_false_iff_ne.mpr h1
  have t2 : (n == 60) = false := beq_eq_false_iff_ne.mpr h2
  have t3 : (n == 80) = false := beq_eq_false_iff_ne.mpr h3
  have t4 : (n == 120) = false := beq_eq_false_iff_ne.mpr h4
  clear h1 h2 h3 h4
  go_enter Try.func105, Try.ntmps105
  go_wp2
  exact bodyPost_ret (v := .tuple #[.agg #[.int .i64 0, .int .i64 0, .int .i64 0, .int .i64 0, .int .i64 0, .int .i64 0, .int .i64 0, .int .i64 0, .int .i64 0], .bool false]) (by simp [results, Try.results105, go_sem]) rfl ⟨rfl, below_alloc (Below.refl _ _) _⟩
/-! ### band_Edges: function 31 -/
def band_Edges.f (a0 : Int) : Option (List Int × Int) := some (edgesV a0, if edgesV a0 = [] then 1 else 0)
theorem edges_row (W : World) (base : Nat) (hb : base ≤ W.heap.size) (xs : List Int) (hm : xs.length ≤ 9223372036854775807) : Kd.R (Kd.int .i64) 157 (W.alloc (.cells (xs.map (Value.int .i64)).toArray 157)) base (fun _ => True) (.slice (some ⟨W.heap.size, 0, none⟩) xs.length xs.length) xs := by
  refine Kd.R_of_own ?_ (fun _ _ => trivial)
  have h := World.ownsRow_lit (base := base) (e := 157) (size := 1) W (xs.map (Value.int .i64)).toArray xs.length hb (by simpa [maxLen] using hm) (by simp)
  simpa [encs] using h
theorem band_Edges.calls40 (w : World) :
    Calls Try.prog 89 #[.int .i64 40] w fun e w' => ∃ v0_ : Value, e = .returned (.tuple #[v0_, .int .i64 0]) ∧ Kd.R (Kd.int .i64) 157 w' w.heap.size (fun _ => True) v0_ [0, 2, 4, 7, 11, 16, 23, 31, 40] ∧ Below w.heap.size w w' := by
  go_enter Try.func89, Try.ntmps89
  go_wp2_with (first | (go_at_call 105; refine (band_edges.calls40 _).mono ?_; rintro e w1 ⟨rfl, hb⟩))
  go_ret2
  exact ⟨_, rfl, edges_row w1 _ (by assumption : Below w.heap.size w w1).size [0, 2, 4, 7, 11, 16, 23, 31, 40] (by decide), below_alloc (by assumption) _⟩
theorem band_Edges.calls60 (w : World) :
    Calls Try.prog 89 #[.int .i64 60] w fun e w' => ∃ v0_ : Value, e = .returned (.tuple #[v0_, .int .i64 0]) ∧ Kd.R (Kd.int .i64) 157 w' w.heap.size (fun _ => True) v0_ [0, 3, 6, 10, 16, 24, 34, 46, 60] ∧ Below w.heap.size w w' := by
  go_enter Try.func89, Try.ntmps89
  go_wp2_with (first | (go_at_call 105; refine (band_edges.calls60 _).mono ?_; rintro e w1 ⟨rfl, hb⟩))
  go_ret2
  exact ⟨_, rfl, edges_row w1 _ (by assumption : Below w.heap.size w w1).size [0, 3, 6, 10, 16, 24, 34, 46, 60] (by decide), below_alloc (by assumption) _⟩
theorem band_Edges.calls80 (w : World) :
    Calls Try.prog 89 #[.int .i64 80] w fun e w' => ∃ v0_ : Value, e = .returned (.tuple #[v0_, .int .i64 0]) ∧ Kd.R (Kd.int .i64) 157 w' w.heap.size (fun _ => True) v0_ [0, 4, 8, 14, 22, 32, 46, 62, 80] ∧ Below w.heap.size w w' := by
  go_enter Try.func89, Try.ntmps89
  go_wp2_with (first | (go_at_call 105; refine (band_edges.calls80 _).mono ?_; rintro e w1 ⟨rfl, hb⟩))
  go_ret2
  exact ⟨_, rfl, edges_row w1 _ (by assumption : Below w.heap.size w w1).size [0, 4, 8, 14, 22, 32, 46, 62, 80] (by decide), below_alloc (by assumption) _⟩
theorem band_Edges.calls120 (w : World) :
    Calls Try.prog 89 #[.int .i64 120] w fun e w' => ∃ v0_ : Value, e = .returned (.tuple #[v0_, .int .i64 0]) ∧ Kd.R (Kd.int .i64) 157 w' w.heap.size (fun _ => True) v0_ [0, 6, 12, 21, 33, 48, 69, 93, 120] ∧ Below w.heap.size w w' := by
  go_enter Try.func89, Try.ntmps89
  go_wp2_with (first | (go_at_call 105; refine (band_edges.calls120 _).mono ?_; rintro e w1 ⟨rfl, hb⟩))
  go_ret2
  exact ⟨_, rfl, edges_row w1 _ (by assumption : Below w.heap.size w w1).size [0, 6, 12, 21, 33, 48, 69, 93, 120] (by decide), below_alloc (by assumption) _⟩
theorem band_Edges.calls (a0 : Int) (r1 : List Int) (r2 : Int) (w : World) (h : band_Edges.f a0 = some (r1, r2)) :
    Calls Try.prog 89 #[.int .i64 a0] w fun e w' => ∃ v0_ : Value, e = .returned (.tuple #[v0_, .int .i64 r2]) ∧ Kd.R (Kd.int .i64) 157 w' w.heap.size (fun _ => True) v0_ r1 ∧ Below w.heap.size w w' := by
  unfold band_Edges.f at h
  rcases edges_cases a0 with rfl | rfl | rfl | rfl | ⟨hn, he⟩
  · simp [edgesV] at h; obtain ⟨rfl, rfl⟩ := h; exact band_Edges.calls40 w
  · simp [edgesV] at h; obtain ⟨rfl, rfl⟩ := h; exact band_Edges.calls60 w
  · simp [edgesV] at h; obtain ⟨rfl, rfl⟩ := h; exact band_Edges.calls80 w
  · simp [edgesV] at h; obtain ⟨rfl, rfl⟩ := h; exact band_Edges.calls120 w
  · rw [he] at h; simp at h; obtain ⟨rfl, rfl⟩ := h
    clear he
    go_enter Try.func89, Try.ntmps89
    go_wp2_with (first | (go_at_call 105; refine (band_edges.callsNo _ hn _).mono ?_; rintro e w1 ⟨rfl, hb⟩))
    go_ret2
    exact ⟨_, rfl, Kd.R_nil _ _ _ _ _, below_alloc (by assumption) _⟩
theorem info_i32 : (Try.prog.info? 21).map (fun i => (i.zero, i.size, i.bytes)) = some (some (.int .i32 0), 1, 4) := by kernel_rfl
/-! ### band_Energies: function 42 -/
def seg (l : List Int) (a b : Int) : List Int := (l.take b.toNat).drop a.toNat
theorem seg_cut {A0 : Option Addr} {c0 : Nat} {l0 : List Int} {w : World} (hr0 : Kd.C (Kd.int .i32) w A0 l0.length l0) (hc0 : l0.length ≤ c0) (lo hi : Int) (h0 : 0 ≤ lo) (h1 : lo ≤ hi) (h2 : hi ≤ l0.length) :
    ∃ A c, (∀ W : World, (Instr.slice 41 (.slice A0 l0.length c0) (some (.int .i64 lo)) (some (.int .i64 hi)) none).run Try.prog W = .ok (.slice A (seg l0 lo hi).length c) W) ∧ (seg l0 lo hi).length ≤ c ∧ Kd.C (Kd.int .i32) w A (seg l0 lo hi).length (seg l0 lo hi) := by
  obtain ⟨i0, hi0, hz⟩ := Option.map_eq_some_iff.1 info_i32
  simp only [Prod.mk.injEq] at hz
  have hl : (seg l0 lo hi).length = hi.toNat - lo.toNat := by unfold seg; rw [List.length_drop, List.length_take]; omega
  refine ⟨_, c0 - lo.toNat, fun W => ?_, by rw [hl]; omega, Kd.C_mid hr0 (by omega) (by omega) hc0⟩
  rw [hl]
  exact cut_mid 41 21 .i64 .i64 Try.underlying41 hi0 1 hz.2.1 A0 l0.length c0 lo hi h0 h1 h2 hc0 W
def enAll (f : List Int → Option Int) (l : List Int) (es : List Int) : Option (List Int) :=
  (f (seg l (rd es 0) (rd es 1))).bind fun e0 => (f (seg l (rd es 1) (rd es 2))).bind fun e1 => (f (seg l (rd es 2) (rd es 3))).bind fun e2 => (f (seg l (rd es 3) (rd es 4))).bind fun e3 => (f (seg l (rd es 4) (rd es 5))).bind fun e4 => (f (seg l (rd es 5) (rd es 6))).bind fun e5 => (f (seg l (rd es 6) (rd es 7))).bind fun e6 => (f (seg l (rd es 7) (rd es 8))).bind fun e7 => some [e0, e1, e2, e3, e4, e5, e6, e7]
theorem enAll_mono {f g : List Int → Option Int} (h : ∀ l, LeO (f l) (g l)) (l es : List Int) : LeO (enAll f l es) (enAll g l es) := by
  unfold enAll
  exact LeO.bind (h _) fun _ => LeO.bind (h _) fun _ => LeO.bind (h _) fun _ => LeO.bind (h _) fun _ => LeO.bind (h _) fun _ => LeO.bind (h _) fun _ => LeO.bind (h _) fun _ => LeO.bind (h _) fun _ => LeO.refl _
theorem enAll_some {f : List Int → Option Int} {l es r : List Int} (h : enAll f l es = some r) : ∃ e0 e1 e2 e3 e4 e5 e6 e7, r = [e0, e1, e2, e3, e4, e5, e6, e7] ∧ f (seg l (rd es 0) (rd es 1)) = some e0 ∧ f (seg l (rd es 1) (rd es 2)) = some e1 ∧ f (seg l (rd es 2) (rd es 3)) = some e2 ∧ f (seg l (rd es 3) (rd es 4)) = some e3 ∧ f (seg l (rd es 4) (rd es 5)) = some e4 ∧ f (seg l (rd es 5) (rd es 6)) = some e5 ∧ f (seg l (rd es 6) (rd es 7)) = some e6 ∧ f (seg l (rd es 7) (rd es 8)) = some e7 := by
  unfold enAll at h
  simp only [Option.bind_eq_some_iff] at h
  obtain ⟨e0, h0, e1, h1, e2, h2, e3, h3, e4, h4, e5, h5, e6, h6, e7, h7, h8⟩ := h
  exact ⟨e0, e1, e2, e3, e4, e5, e6, e7, (Option.some.inj h8).symm, h0, h1, h2, h3, h4, h5, h6, h7⟩
def band_Energies.f (k : Nat) (l0 : List Int) : Option (List Int × Int) := if edgesV (l0.length : Int) = [] then some ([], 1) else (enAll (band_energy.f k) l0 (edgesV (l0.length : Int))).bind fun r => some (r, 0)
theorem band_Energies.mono : ∀ a0 k, LeO (band_Energies.f k a0) (band_Energies.f (k + 1) a0) := by
  intro a0 k
  unfold band_Energies.f
  exact LeO.ite (LeO.refl _) (LeO.bind (enAll_mono (fun l => band_energy.mono l k) _ _) fun _ => LeO.refl _)
def enUpto (r : List Int) (b : Int) : List Int := r.take b.toNat ++ List.replicate (8 - b.toNat) 0
theorem band_edges.at40 (m : Int) (h1 : 40 ≤ m) (h2 : m ≤ 40) (w : World) : Calls Try.prog 105 #[.int .i64 m] w fun e w' => e = .returned (.tuple #[.agg #[.int .i64 0, .int .i64 2, .int .i64 4, .int .i64 7, .int .i64 11, .int .i64 16, .int .i64 23, .int .i64 31, .int .i64 40], .bool true]) ∧ Below w.heap.size w w' := by
  obtain rfl : m = 40 := by omega
  exact band_edges.calls40 w
set_option maxHeartbeats 8000000 in
set_option maxRecDepth 100000 in
theorem band_Energies.calls40 (k : Nat) (A0 : Option Addr) (c0 : Nat) (l0 : List Int) (e0 e1 e2 e3 e4 e5 e6 e7 : Int) (w : World) (hr0 : Kd.C (Kd.int .i32) w A0 l0.length l0) (hc0 : l0.length ≤ c0) (hn : l0.length = 40)
    (q0 : Aside0 (band_energy.f k (seg l0 0 2) = some e0)) (q1 : Aside0 (band_energy.f k (seg l0 2 4) = some e1)) (q2 : Aside0 (band_energy.f k (seg l0 4 7) = some e2)) (q3 : Aside0 (band_energy.f k (seg l0 7 11) = some e3)) (q4 : Aside0 (band_energy.f k (seg l0 11 16) = some e4)) (q5 : Aside0 (band_energy.f k (seg l0 16 23) = some e5)) (q6 : Aside0 (band_energy.f k (seg l0 23 31) = some e6)) (q7 : Aside0 (band_energy.f k (seg l0 31 40) = some e7)) :
    Calls Try.prog 88 #[.slice A0 l0.length c0] w fun e w' => ∃ v0_ : Value, e = .returned (.tuple #[v0_, .int .i64 0]) ∧ Kd.R (Kd.int .u64) 90 w' w.heap.size (fun _ => True) v0_ [e0, e1, e2, e3, e4, e5, e6, e7] ∧ Below w.heap.size w w' := by
  have HR0 := Aside0.mk hr0
  have HC0 := Aside0.mk hc0
  clear hr0 hc0
  have hn1 : 40 ≤ l0.length := by omega
  have hn2 : l0.length ≤ 40 := by omega
  clear hn
  have HB := Aside0.mk (Below.refl w.heap.size w)
  go_enter Try.func88, Try.ntmps88
  go_wp2_with (first | (go_at_call 105; refine (band_edges.at40 _ (by omega) (by omega) _).mono ?_; rintro e w1 ⟨rfl, hb⟩; have n1_ := Aside0.mk (below_alloc hb (.cells #[.int .i64 0, .int .i64 2, .int .i64 4, .int .i64 7, .int .i64 11, .int .i64 16, .int .i64 23, .int .i64 31, .int .i64 40] 157)); have nb_ := Aside0.mk (blk_new w1 (.cells #[.int .i64 0, .int .i64 2, .int .i64 4, .int .i64 7, .int .i64 11, .int .i64 16, .int .i64 23, .int .i64 31, .int .i64 40] 157)); clear HB; have HB := n1_; have HX := nb_; clear n1_ nb_ hb) | ((with_reducible refine gate_dst (N := 16) rfl ?_); refine Kd.R_make (Kd.int .u64) _ 90 rfl (N := 16) rfl 106 _ _ rfl 8 rfl rfl Try.underlying106 (.int .u64 0) 8 info90 rfl (by decide) (by omega) 0 (ok := fun _ => True) (okp := fun _ => True) rfl (fun _ hk => hk) trivial (by omega) (by omega) (Below.refl _ _) (Nat.le_refl _) ?_; intro v102 w3 ho4 hb hg_ hnew_; clear hg_ hnew_; simp only [Int.reduceToNat] at ho4; have n0_ := Aside0.mk (Kd.R_lower ho4 (below_size HB.out)); have n1_ := Aside0.mk (below_step HB.out hb); have nb_ := Aside0.mk ((hb.block _ (blk_lt HX.out)).trans HX.out); clear HB HX; have HO := n0_; have HB := n1_; have HX := nb_; clear n0_ n1_ nb_; clear hb ho4; obtain ⟨go, co, eo, gb, gl, cl, HG⟩ := Kd.R_form HO.out (by decide); subst eo; have GB := Aside0.mk gb; clear gb gl HG cl))
  generalize hbx : w1.heap.size = bx at HX ⊢
  clear hbx
  go_loopg [7, 19, 21, 22, 23, 24, 25, 26, 27, 28, 29, 30, 31, 32, 33, 34] 8 (fun kq v7 v19 v21 v22 v23 v24 v25 v26 v27 v28 v29 v30 v31 v32 v33 v34 w' => ∃ b : Int, (kq : Int) + b = 8 ∧ 0 ≤ b ∧ v19 = .int .i64 b ∧ Aside0 (Kd.R (Kd.int .u64) 90 w' w.heap.size (fun _ => True) (.slice (some ⟨go, 0, none⟩) 8 co) (enUpto [e0, e1, e2, e3, e4, e5, e6, e7] b)) ∧ Aside0 (w'.heap[bx]? = some (.cells #[.int .i64 0, .int .i64 2, .int .i64 4, .int .i64 7, .int .i64 11, .int .i64 16, .int .i64 23, .int .i64 31, .int .i64 40] 157 (0, 0))) ∧ Aside0 (Below w.heap.size w w'))
  case atStart => exact ⟨0, rfl, Int.le_refl _, rfl, ⟨HO.out⟩, ⟨HX.out⟩, ⟨HB.out⟩⟩
  case round =>
    clear HO HX HB
    obtain ⟨b, hkb, hb0, rfl, HO, HX, HB⟩ := hrel
    have hb8 : b = 0 ∨ b = 1 ∨ b = 2 ∨ b = 3 ∨ b = 4 ∨ b = 5 ∨ b = 6 ∨ b = 7 ∨ b = 8 := by omega
    rcases hb8 with rfl | rfl | rfl | rfl | rfl | rfl | rfl | rfl | rfl
    · obtain ⟨As, cs, hsl, hcs, hCs⟩ := seg_cut HR0.out HC0.out 0 2 (by decide) (by decide) (by omega)
      have HCS := Aside0.mk hcs; have HRS := Aside0.mk hCs
      clear hcs hCs
      obtain rfl : gk = 7 + 1 := by omega
      clear hkb hb0
      have ca : wr.cell? ⟨bx, 0, none⟩ = some (.int .i64 0) := by simp [World.cell?, HX.out]
      have cb : wr.cell? ⟨bx, 1, none⟩ = some (.int .i64 2) := by simp [World.cell?, HX.out]
      obtain ⟨hy, hz⟩ := Kd.R_celln 0 HO.out 0 (by decide) (by decide)
      simp only [Int.reduceToNat] at hy hz
      have hwr : IntKind.i64.wrap 1 = 1 := by decide +kernel
      go_wp2
      go_still_tail 13, (by kernel_rfl)
      still_call (band_energy.same k As cs (seg l0 0 2) e0 _ (Kd.C_below HRS.out (below_drew HB.out)) HCS.out q0.out)
      repeat still_step
      refine wpStill_nil ?_
      change wpList _ _ _ _ _ wr.drew
      have HO2 := Aside0.mk (Kd.R_drew HO.out)
      have HX2 : Aside0 (wr.drew.heap[bx]? = _) := ⟨HX.out⟩
      have HB2 := Aside0.mk (below_drew HB.out)
      clear HO HX HB ca cb hy hz hsl hwr HCS HRS
      generalize wr.drew = wd at HO2 HX2 HB2 ⊢
      obtain ⟨hy, hz⟩ := Kd.R_celln 0 HO2.out 0 (by decide) (by decide)
      simp only [Int.reduceToNat] at hy hz
      have HP := Kd.R_putg HO2.out (0 : Int) e0
      refine store_event (t := 90) (p := 34) (v := ?vo0) (w1 := wd.setCell ⟨go, Int.toNat 0, none⟩ (.int .u64 e0)) ?hg0 ?ho0 ?hn0 ?hr0 ?_
      (case ho0 => rfl); (case hg0 => rfl); (case hn0 => rfl); (case hr0 => first | (go_simp; done) | (go_simp; rfl))
      intro w5 hw
      have hg : wd.grownBy w5 (some go) := by rw [hw]; exact HP.2
      have HO3 : Aside0 (Kd.R (Kd.int .u64) 90 w5 w.heap.size (fun _ => True) (.slice (some ⟨go, 0, none⟩) 8 co) (enUpto [e0, e1, e2, e3, e4, e5, e6, e7] 1)) := ⟨by rw [hw]; exact HP.1⟩
      have HX3 : Aside0 (w5.heap[bx]? = _) := ⟨blk_grown HX2.out hg (Kd.R_ne HO2.out HX2.out (by decide))⟩
      have HB3 : Aside0 (Below w.heap.size w w5) := ⟨by rw [hw]; exact below_set HB2.out GB.out⟩
      clear HP hy hz HO2 HX2 HB2 hg hw
      go_wp2
      go_roundg 7
      case measure => omega
      case rel => exact ⟨1, by decide, by decide, (by first | rfl | (simp; done)), ⟨HO3.out⟩, ⟨HX3.out⟩, ⟨HB3.out⟩⟩
    · obtain ⟨As, cs, hsl, hcs, hCs⟩ := seg_cut HR0.out HC0.out 2 4 (by decide) (by decide) (by omega)
      have HCS := Aside0.mk hcs; have HRS := Aside0.mk hCs
      clear hcs hCs
      obtain rfl : gk = 6 + 1 := by omega
      clear hkb hb0
      have ca : wr.cell? ⟨bx, 1, none⟩ = some (.int .i64 2) := by simp [World.cell?, HX.out]
      have cb : wr.cell? ⟨bx, 2, none⟩ = some (.int .i64 4) := by simp [World.cell?, HX.out]
      obtain ⟨hy, hz⟩ := Kd.R_celln 0 HO.out 1 (by decide) (by decide)
      simp only [Int.reduceToNat] at hy hz
      have hwr : IntKind.i64.wrap 2 = 2 := by decide +kernel
      go_wp2
      go_still_tail 13, (by kernel_rfl)
      still_call (band_energy.same k As cs (seg l0 2 4) e1 _ (Kd.C_below HRS.out (below_drew HB.out)) HCS.out q1.out)
      repeat still_step
      refine wpStill_nil ?_
      change wpList _ _ _ _ _ wr.drew
      have HO2 := Aside0.mk (Kd.R_drew HO.out)
      have HX2 : Aside0 (wr.drew.heap[bx]? = _) := ⟨HX.out⟩
      have HB2 := Aside0.mk (below_drew HB.out)
      clear HO HX HB ca cb hy hz hsl hwr HCS HRS
      generalize wr.drew = wd at HO2 HX2 HB2 ⊢
      obtain ⟨hy, hz⟩ := Kd.R_celln 0 HO2.out 1 (by decide) (by decide)
      simp only [Int.reduceToNat] at hy hz
      have HP := Kd.R_putg HO2.out (1 : Int) e1
      refine store_event (t := 90) (p := 34) (v := ?vo1) (w1 := wd.setCell ⟨go, Int.toNat 1, none⟩ (.int .u64 e1)) ?hg1 ?ho1 ?hn1 ?hr1 ?_
      (case ho1 => rfl); (case hg1 => rfl); (case hn1 => rfl); (case hr1 => first | (go_simp; done) | (go_simp; rfl))
      intro w5 hw
      have hg : wd.grownBy w5 (some go) := by rw [hw]; exact HP.2
      have HO3 : Aside0 (Kd.R (Kd.int .u64) 90 w5 w.heap.size (fun _ => True) (.slice (some ⟨go, 0, none⟩) 8 co) (enUpto [e0, e1, e2, e3, e4, e5, e6, e7] 2)) := ⟨by rw [hw]; exact HP.1⟩
      have HX3 : Aside0 (w5.heap[bx]? = _) := ⟨blk_grown HX2.out hg (Kd.R_ne HO2.out HX2.out (by decide))⟩
      have HB3 : Aside0 (Below w.heap.size w w5) := ⟨by rw [hw]; exact below_set HB2.out GB.out⟩
      clear HP hy hz HO2 HX2 HB2 hg hw
      go_wp2
      go_roundg 6
      case measure => omega
      case rel => exact ⟨2, by decide, by decide, (by first | rfl | (simp; done)), ⟨HO3.out⟩, ⟨HX3.out⟩, ⟨HB3.out⟩⟩
    · obtain ⟨As, cs, hsl, hcs, hCs⟩ := seg_cut HR0.out HC0.out 4 7 (by decide) (by decide) (by omega)
      have HCS := Aside0.mk hcs; have HRS := Aside0.mk hCs
      clear hcs hCs
      obtain rfl : gk = 5 + 1 := by omega
      clear hkb hb0
      have ca : wr.cell? ⟨bx, 2, none⟩ = some (.int .i64 4) := by simp [World.cell?, HX.out]
      have cb : wr.cell? ⟨bx, 3, none⟩ = some (.int .i64 7) := by simp [World.cell?, HX.out]
      obtain ⟨hy, hz⟩ := Kd.R_celln 0 HO.out 2 (by decide) (by decide)
      simp only [Int.reduceToNat] at hy hz
      have hwr : IntKind.i64.wrap 3 = 3 := by decide +kernel
      go_wp2
      go_still_tail 13, (by kernel_rfl)
      still_call (band_energy.same k As cs (seg l0 4 7) e2 _ (Kd.C_below HRS.out (below_drew HB.out)) HCS.out q2.out)
      repeat still_step
      refine wpStill_nil ?_
      change wpList _ _ _ _ _ wr.drew
      have HO2 := Aside0.mk (Kd.R_drew HO.out)
      have HX2 : Aside0 (wr.drew.heap[bx]? = _) := ⟨HX.out⟩
      have HB2 := Aside0.mk (below_drew HB.out)
      clear HO HX HB ca cb hy hz hsl hwr HCS HRS
      generalize wr.drew = wd at HO2 HX2 HB2 ⊢
      obtain ⟨hy, hz⟩ := Kd.R_celln 0 HO2.out 2 (by decide) (by decide)
      simp only [Int.reduceToNat] at hy hz
      have HP := Kd.R_putg HO2.out (2 : Int) e2
      refine store_event (t := 90) (p := 34) (v := ?vo2) (w1 := wd.setCell ⟨go, Int.toNat 2, none⟩ (.int .u64 e2)) ?hg2 ?ho2 ?hn2 ?hr2 ?_
      (case ho2 => rfl); (case hg2 => rfl); (case hn2 => rfl); (case hr2 => first | (go_simp; done) | (go_simp; rfl))
      intro w5 hw
      have hg : wd.grownBy w5 (some go) := by rw [hw]; exact HP.2
      have HO3 : Aside0 (Kd.R (Kd.int .u64) 90 w5 w.heap.size (fun _ => True) (.slice (some ⟨go, 0, none⟩) 8 co) (enUpto [e0, e1, e2, e3, e4, e5, e6, e7] 3)) := ⟨by rw [hw]; exact HP.1⟩
      have HX3 : Aside0 (w5.heap[bx]? = _) := ⟨blk_grown HX2.out hg (Kd.R_ne HO2.out HX2.out (by decide))⟩
      have HB3 : Aside0 (Below w.heap.size w w5) := ⟨by rw [hw]; exact below_set HB2.out GB.out⟩
      clear HP hy hz HO2 HX2 HB2 hg hw
      go_wp2
      go_roundg 5
      case measure => omega
      case rel => exact ⟨3, by decide, by decide, (by first | rfl | (simp; done)), ⟨HO3.out⟩, ⟨HX3.out⟩, ⟨HB3.out⟩⟩
    · obtain ⟨As, cs, hsl, hcs, hCs⟩ := seg_cut HR0.out HC0.out 7 11 (by decide) (by decide) (by omega)
      have HCS := Aside0.mk hcs; have HRS := Aside0.mk hCs
      clear hcs hCs
      obtain rfl : gk = 4 + 1 := by omega
      clear hkb hb0
      have ca : wr.cell? ⟨bx, 3, none⟩ = some (.int .i64 7) := by simp [World.cell?, HX.out]
      have cb : wr.cell? ⟨bx, 4, none⟩ = some (.int .i64 11) := by simp [World.cell?, HX.out]
      obtain ⟨hy, hz⟩ := Kd.R_celln 0 HO.out 3 (by decide) (by decide)
      simp only [Int.reduceToNat] at hy hz
      have hwr : IntKind.i64.wrap 4 = 4 := by decide +kernel
      go_wp2
      go_still_tail 13, (by kernel_rfl)
      still_call (band_energy.same k As cs (seg l0 7 11) e3 _ (Kd.C_below HRS.out (below_drew HB.out)) HCS.out q3.out)
      repeat still_step
      refine wpStill_nil ?_
      change wpList _ _ _ _ _ wr.drew
      have HO2 := Aside0.mk (Kd.R_drew HO.out)
      have HX2 : Aside0 (wr.drew.heap[bx]? = _) := ⟨HX.out⟩
      have HB2 := Aside0.mk (below_drew HB.out)
      clear HO HX HB ca cb hy hz hsl hwr HCS HRS
      generalize wr.drew = wd at HO2 HX2 HB2 ⊢
      obtain ⟨hy, hz⟩ := Kd.R_celln 0 HO2.out 3 (by decide) (by decide)
      simp only [Int.reduceToNat] at hy hz
      have HP := Kd.R_putg HO2.out (3 : Int) e3
      refine store_event (t := 90) (p := 34) (v := ?vo3) (w1 := wd.setCell ⟨go, Int.toNat 3, none⟩ (.int .u64 e3)) ?hg3 ?ho3 ?hn3 ?hr3 ?_
      (case ho3 => rfl); (case hg3 => rfl); (case hn3 => rfl); (case hr3 => first | (go_simp; done) | (go_simp; rfl))
      intro w5 hw
      have hg : wd.grownBy w5 (some go) := by rw [hw]; exact HP.2
      have HO3 : Aside0 (Kd.R (Kd.int .u64) 90 w5 w.heap.size (fun _ => True) (.slice (some ⟨go, 0, none⟩) 8 co) (enUpto [e0, e1, e2, e3, e4, e5, e6, e7] 4)) := ⟨by rw [hw]; exact HP.1⟩
      have HX3 : Aside0 (w5.heap[bx]? = _) := ⟨blk_grown HX2.out hg (Kd.R_ne HO2.out HX2.out (by decide))⟩
      have HB3 : Aside0 (Below w.heap.size w w5) := ⟨by rw [hw]; exact below_set HB2.out GB.out⟩
      clear HP hy hz HO2 HX2 HB2 hg hw
      go_wp2
      go_roundg 4
      case measure => omega
      case rel => exact ⟨4, by decide, by decide, (by first | rfl | (simp; done)), ⟨HO3.out⟩, ⟨HX3.out⟩, ⟨HB3.out⟩⟩
    · obtain ⟨As, cs, hsl, hcs, hCs⟩ := seg_cut HR0.out HC0.out 11 16 (by decide) (by decide) (by omega)
      have HCS := Aside0.mk hcs; have HRS := Aside0.mk hCs
      clear hcs hCs
      obtain rfl : gk = 3 + 1 := by omega
      clear hkb hb0
      have ca : wr.cell? ⟨bx, 4, none⟩ = some (.int .i64 11) := by simp [World.cell?, HX.out]
      have cb : wr.cell? ⟨bx, 5, none⟩ = some (.int .i64 16) := by simp [World.cell?, HX.out]
      obtain ⟨hy, hz⟩ := Kd.R_celln 0 HO.out 4 (by decide) (by decide)
      simp only [Int.reduceToNat] at hy hz
      have hwr : IntKind.i64.wrap 5 = 5 := by decide +kernel
      go_wp2
      go_still_tail 13, (by kernel_rfl)
      still_call (band_energy.same k As cs (seg l0 11 16) e4 _ (Kd.C_below HRS.out (below_drew HB.out)) HCS.out q4.out)
      repeat still_step
      refine wpStill_nil ?_
      change wpList _ _ _ _ _ wr.drew
      have HO2 := Aside0.mk (Kd.R_drew HO.out)
      have HX2 : Aside0 (wr.drew.heap[bx]? = _) := ⟨HX.out⟩
      have HB2 := Aside0.mk (below_drew HB.out)
      clear HO HX HB ca cb hy hz hsl hwr HCS HRS
      generalize wr.drew = wd at HO2 HX2 HB2 ⊢
      obtain ⟨hy, hz⟩ := Kd.R_celln 0 HO2.out 4 (by decide) (by decide)
      simp only [Int.reduceToNat] at hy hz
      have HP := Kd.R_putg HO2.out (4 : Int) e4
      refine store_event (t := 90) (p := 34) (v := ?vo4) (w1 := wd.setCell ⟨go, Int.toNat 4, none⟩ (.int .u64 e4)) ?hg4 ?ho4 ?hn4 ?hr4 ?_
      (case ho4 => rfl); (case hg4 => rfl); (case hn4 => rfl); (case hr4 => first | (go_simp; done) | (go_simp; rfl))
      intro w5 hw
      have hg : wd.grownBy w5 (some go) := by rw [hw]; exact HP.2
      have HO3 : Aside0 (Kd.R (Kd.int .u64) 90 w5 w.heap.size (fun _ => True) (.slice (some ⟨go, 0, none⟩) 8 co) (enUpto [e0, e1, e2, e3, e4, e5, e6, e7] 5)) := ⟨by rw [hw]; exact HP.1⟩
      have HX3 : Aside0 (w5.heap[bx]? = _) := ⟨blk_grown HX2.out hg (Kd.R_ne HO2.out HX2.out (by decide))⟩
      have HB3 : Aside0 (Below w.heap.size w w5) := ⟨by rw [hw]; exact below_set HB2.out GB.out⟩
      clear HP hy hz HO2 HX2 HB2 hg hw
      go_wp2
      go_roundg 3
      case measure => omega
      case rel => exact ⟨5, by decide, by decide, (by first | rfl | (simp; done)), ⟨HO3.out⟩, ⟨HX3.out⟩, ⟨HB3.out⟩⟩
    · obtain ⟨As, cs, hsl, hcs, hCs⟩ := seg_cut HR0.out HC0.out 16 23 (by decide) (by decide) (by omega)
      have HCS := Aside0.mk hcs; have HRS := Aside0.mk hCs
      clear hcs hCs
      obtain rfl : gk = 2 + 1 := by omega
      clear hkb hb0
      have ca : wr.cell? ⟨bx, 5, none⟩ = some (.int .i64 16) := by simp [World.cell?, HX.out]
      have cb : wr.cell? ⟨bx, 6, none⟩ = some (.int .i64 23) := by simp [World.cell?, HX.out]
      obtain ⟨hy, hz⟩ := Kd.R_celln 0 HO.out 5 (by decide) (by decide)
      simp only [Int.reduceToNat] at hy hz
      have hwr : IntKind.i64.wrap 6 = 6 := by decide +kernel
      go_wp2
      go_still_tail 13, (by kernel_rfl)
      still_call (band_energy.same k As cs (seg l0 16 23) e5 _ (Kd.C_below HRS.out (below_drew HB.out)) HCS.out q5.out)
      repeat still_step
      refine wpStill_nil ?_
      change wpList _ _ _ _ _ wr.drew
      have HO2 := Aside0.mk (Kd.R_drew HO.out)
      have HX2 : Aside0 (wr.drew.heap[bx]? = _) := ⟨HX.out⟩
      have HB2 := Aside0.mk (below_drew HB.out)
      clear HO HX HB ca cb hy hz hsl hwr HCS HRS
      generalize wr.drew = wd at HO2 HX2 HB2 ⊢
      obtain ⟨hy, hz⟩ := Kd.R_celln 0 HO2.out 5 (by decide) (by decide)
      simp only [Int.reduceToNat] at hy hz
      have HP := Kd.R_putg HO2.out (5 : Int) e5
      refine store_event (t := 90) (p := 34) (v := ?vo5) (w1 := wd.setCell ⟨go, Int.toNat 5, none⟩ (.int .u64 e5)) ?hg5 ?ho5 ?hn5 ?hr5 ?_
      (case ho5 => rfl); (case hg5 => rfl); (case hn5 => rfl); (case hr5 => first | (go_simp; done) | (go_simp; rfl))
      intro w5 hw
      have hg : wd.grownBy w5 (some go) := by rw [hw]; exact HP.2
      have HO3 : Aside0 (Kd.R (Kd.int .u64) 90 w5 w.heap.size (fun _ => True) (.slice (some ⟨go, 0, none⟩) 8 co) (enUpto [e0, e1, e2, e3, e4, e5, e6, e7] 6)) := ⟨by rw [hw]; exact HP.1⟩
      have HX3 : Aside0 (w5.heap[bx]? = _) := ⟨blk_grown HX2.out hg (Kd.R_ne HO2.out HX2.out (by decide))⟩
      have HB3 : Aside0 (Below w.heap.size w w5) := ⟨by rw [hw]; exact below_set HB2.out GB.out⟩
      clear HP hy hz HO2 HX2 HB2 hg hw
      go_wp2
      go_roundg 2
      case measure => omega
      case rel => exact ⟨6, by decide, by decide, (by first | rfl | (simp; done)), ⟨HO3.out⟩, ⟨HX3.out⟩, ⟨HB3.out⟩⟩
    · obtain ⟨As, cs, hsl, hcs, hCs⟩ := seg_cut HR0.out HC0.out 23 31 (by decide) (by decide) (by omega)
      have HCS := Aside0.mk hcs; have HRS := Aside0.mk hCs
      clear hcs hCs
      obtain rfl : gk = 1 + 1 := by omega
      clear hkb hb0
      have ca : wr.cell? ⟨bx, 6, none⟩ = some (.int .i64 23) := by simp [World.cell?, HX.out]
      have cb : wr.cell? ⟨bx, 7, none⟩ = some (.int .i64 31) := by simp [World.cell?, HX.out]
      obtain ⟨hy, hz⟩ := Kd.R_celln 0 HO.out 6 (by decide) (by decide)
      simp only [Int.reduceToNat] at hy hz
      have hwr : IntKind.i64.wrap 7 = 7 := by decide +kernel
      go_wp2
      go_still_tail 13, (by kernel_rfl)
      still_call (band_energy.same k As cs (seg l0 23 31) e6 _ (Kd.C_below HRS.out (below_drew HB.out)) HCS.out q6.out)
      repeat still_step
      refine wpStill_nil ?_
      change wpList _ _ _ _ _ wr.drew
      have HO2 := Aside0.mk (Kd.R_drew HO.out)
      have HX2 : Aside0 (wr.drew.heap[bx]? = _) := ⟨HX.out⟩
      have HB2 := Aside0.mk (below_drew HB.out)
      clear HO HX HB ca cb hy hz hsl hwr HCS HRS
      generalize wr.drew = wd at HO2 HX2 HB2 ⊢
      obtain ⟨hy, hz⟩ := Kd.R_celln 0 HO2.out 6 (by decide) (by decide)
      simp only [Int.reduceToNat] at hy hz
      have HP := Kd.R_putg HO2.out (6 : Int) e6
      refine store_event (t := 90) (p := 34) (v := ?vo6) (w1 := wd.setCell ⟨go, Int.toNat 6, none⟩ (.int .u64 e6)) ?hg6 ?ho6 ?hn6 ?hr6 ?_
      (case ho6 => rfl); (case hg6 => rfl); (case hn6 => rfl); (case hr6 => first | (go_simp; done) | (go_simp; rfl))
      intro w5 hw
      have hg : wd.grownBy w5 (some go) := by rw [hw]; exact HP.2
      have HO3 : Aside0 (Kd.R (Kd.int .u64) 90 w5 w.heap.size (fun _ => True) (.slice (some ⟨go, 0, none⟩) 8 co) (enUpto [e0, e1, e2, e3, e4, e5, e6, e7] 7)) := ⟨by rw [hw]; exact HP.1⟩
      have HX3 : Aside0 (w5.heap[bx]? = _) := ⟨blk_grown HX2.out hg (Kd.R_ne HO2.out HX2.out (by decide))⟩
      have HB3 : Aside0 (Below w.heap.size w w5) := ⟨by rw [hw]; exact below_set HB2.out GB.out⟩
      clear HP hy hz HO2 HX2 HB2 hg hw
      go_wp2
      go_roundg 1
      case measure => omega
      case rel => exact ⟨7, by decide, by decide, (by first | rfl | (simp; done)), ⟨HO3.out⟩, ⟨HX3.out⟩, ⟨HB3.out⟩⟩
    · obtain ⟨As, cs, hsl, hcs, hCs⟩ := seg_cut HR0.out HC0.out 31 40 (by decide) (by decide) (by omega)
      have HCS := Aside0.mk hcs; have HRS := Aside0.mk hCs
      clear hcs hCs
      obtain rfl : gk = 0 + 1 := by omega
      clear hkb hb0
      have ca : wr.cell? ⟨bx, 7, none⟩ = some (.int .i64 31) := by simp [World.cell?, HX.out]
      have cb : wr.cell? ⟨bx, 8, none⟩ = some (.int .i64 40) := by simp [World.cell?, HX.out]
      obtain ⟨hy, hz⟩ := Kd.R_celln 0 HO.out 7 (by decide) (by decide)
      simp only [Int.reduceToNat] at hy hz
      have hwr : IntKind.i64.wrap 8 = 8 := by decide +kernel
      go_wp2
      go_still_tail 13, (by kernel_rfl)
      still_call (band_energy.same k As cs (seg l0 31 40) e7 _ (Kd.C_below HRS.out (below_drew HB.out)) HCS.out q7.out)
      repeat still_step
      refine wpStill_nil ?_
      change wpList _ _ _ _ _ wr.drew
      have HO2 := Aside0.mk (Kd.R_drew HO.out)
      have HX2 : Aside0 (wr.drew.heap[bx]? = _) := ⟨HX.out⟩
      have HB2 := Aside0.mk (below_drew HB.out)
      clear HO HX HB ca cb hy hz hsl hwr HCS HRS
      generalize wr.drew = wd at HO2 HX2 HB2 ⊢
      obtain ⟨hy, hz⟩ := Kd.R_celln 0 HO2.out 7 (by decide) (by decide)
      simp only [Int.reduceToNat] at hy hz
      have HP := Kd.R_putg HO2.out (7 : Int) e7
      refine store_event (t := 90) (p := 34) (v := ?vo7) (w1 := wd.setCell ⟨go, Int.toNat 7, none⟩ (.int .u64 e7)) ?hg7 ?ho7 ?hn7 ?hr7 ?_
      (case ho7 => rfl); (case hg7 => rfl); (case hn7 => rfl); (case hr7 => first | (go_simp; done) | (go_simp; rfl))
      intro w5 hw
      have hg : wd.grownBy w5 (some go) := by rw [hw]; exact HP.2
      have HO3 : Aside0 (Kd.R (Kd.int .u64) 90 w5 w.heap.size (fun _ => True) (.slice (some ⟨go, 0, none⟩) 8 co) (enUpto [e0, e1, e2, e3, e4, e5, e6, e7] 8)) := ⟨by rw [hw]; exact HP.1⟩
      have HX3 : Aside0 (w5.heap[bx]? = _) := ⟨blk_grown HX2.out hg (Kd.R_ne HO2.out HX2.out (by decide))⟩
      have HB3 : Aside0 (Below w.heap.size w w5) := ⟨by rw [hw]; exact below_set HB2.out GB.out⟩
      clear HP hy hz HO2 HX2 HB2 hg hw
      go_wp2
      go_roundg 0
      case measure => omega
      case rel => exact ⟨8, by decide, by decide, (by first | rfl | (simp; done)), ⟨HO3.out⟩, ⟨HX3.out⟩, ⟨HB3.out⟩⟩
    · clear hkb hb0
      go_wp2
      go_ret2
      exact ⟨_, rfl, HO.out, HB.out⟩
theorem band_edges.at60 (m : Int) (h1 : 60 ≤ m) (h2 : m ≤ 60) (w : World) : Calls Try.prog 105 #[.int .i64 m] w fun e w' => e = .returned (.tuple #[.agg #[.int .i64 0, .int .i64 3, .int .i64 6, .int .i64 10, .int .i64 16, .int .i64 24, .int .i64 34, .int .i64 46, .int .i64 60], .bool true]) ∧ Below w.heap.size w w' := by
  obtain rfl : m = 60 := by omega
  exact band_edges.calls60 w
set_option maxHeartbeats 8000000 in
set_option maxRecDepth 100000 in
theorem band_Energies.calls60 (k : Nat) (A0 : Option Addr) (c0 : Nat) (l0 : List Int) (e0 e1 e2 e3 e4 e5 e6 e7 : Int) (w : World) (hr0 : Kd.C (Kd.int .i32) w A0 l0.length l0) (hc0 : l0.length ≤ c0) (hn : l0.length = 60)
    (q0 : Aside0 (band_energy.f k (seg l0 0 3) = some e0)) (q1 : Aside0 (band_energy.f k (seg l0 3 6) = some e1)) (q2 : Aside0 (band_energy.f k (seg l0 6 10) = some e2)) (q3 : Aside0 (band_energy.f k (seg l0 10 16) = some e3)) (q4 : Aside0 (band_energy.f k (seg l0 16 24) = some e4)) (q5 : Aside0 (band_energy.f k (seg l0 24 34) = some e5)) (q6 : Aside0 (band_energy.f k (seg l0 34 46) = some e6)) (q7 : Aside0 (band_energy.f k (seg l0 46 60) = some e7)) :
    Calls Try.prog 88 #[.slice A0 l0.length c0] w fun e w' => ∃ v0_ : Value, e = .returned (.tuple #[v0_, .int .i64 0]) ∧ Kd.R (Kd.int .u64) 90 w' w.heap.size (fun _ => True) v0_ [e0, e1, e2, e3, e4, e5, e6, e7] ∧ Below w.heap.size w w' := by
  have HR0 := Aside0.mk hr0
  have HC0 := Aside0.mk hc0
  clear hr0 hc0
  have hn1 : 60 ≤ l0.length := by omega
  have hn2 : l0.length ≤ 60 := by omega
  clear hn
  have HB := Aside0.mk (Below.refl w.heap.size w)
  go_enter Try.func88, Try.ntmps88
  go_wp2_with (first | (go_at_call 105; refine (band_edges.at60 _ (by omega) (by omega) _).mono ?_; rintro e w1 ⟨rfl, hb⟩; have n1_ := Aside0.mk (below_alloc hb (.cells #[.int .i64 0, .int .i64 3, .int .i64 6, .int .i64 10, .int .i64 16, .int .i64 24, .int .i64 34, .int .i64 46, .int .i64 60] 157)); have nb_ := Aside0.mk (blk_new w1 (.cells #[.int .i64 0, .int .i64 3, .int .i64 6, .int .i64 10, .int .i64 16, .int .i64 24, .int .i64 34, .int .i64 46, .int .i64 60] 157)); clear HB; have HB := n1_; have HX := nb_; clear n1_ nb_ hb) | ((with_reducible refine gate_dst (N := 16) rfl ?_); refine Kd.R_make (Kd.int .u64) _ 90 rfl (N := 16) rfl 106 _ _ rfl 8 rfl rfl Try.underlying106 (.int .u64 0) 8 info90 rfl (by decide) (by omega) 0 (ok := fun _ => True) (okp := fun _ => True) rfl (fun _ hk => hk) trivial (by omega) (by omega) (Below.refl _ _) (Nat.le_refl _) ?_; intro v102 w3 ho4 hb hg_ hnew_; clear hg_ hnew_; simp only [Int.reduceToNat] at ho4; have n0_ := Aside0.mk (Kd.R_lower ho4 (below_size HB.out)); have n1_ := Aside0.mk (below_step HB.out hb); have nb_ := Aside0.mk ((hb.block _ (blk_lt HX.out)).trans HX.out); clear HB HX; have HO := n0_; have HB := n1_; have HX := nb_; clear n0_ n1_ nb_; clear hb ho4; obtain ⟨go, co, eo, gb, gl, cl, HG⟩ := Kd.R_form HO.out (by decide); subst eo; have GB := Aside0.mk gb; clear gb gl HG cl))
  generalize hbx : w1.heap.size = bx at HX ⊢
  clear hbx
  go_loopg [7, 19, 21, 22, 23, 24, 25, 26, 27, 28, 29, 30, 31, 32, 33, 34] 8 (fun kq v7 v19 v21 v22 v23 v24 v25 v26 v27 v28 v29 v30 v31 v32 v33 v34 w' => ∃ b : Int, (kq : Int) + b = 8 ∧ 0 ≤ b ∧ v19 = .int .i64 b ∧ Aside0 (Kd.R (Kd.int .u64) 90 w' w.heap.size (fun _ => True) (.slice (some ⟨go, 0, none⟩) 8 co) (enUpto [e0, e1, e2, e3, e4, e5, e6, e7] b)) ∧ Aside0 (w'.heap[bx]? = some (.cells #[.int .i64 0, .int .i64 3, .int .i64 6, .int .i64 10, .int .i64 16, .int .i64 24, .int .i64 34, .int .i64 46, .int .i64 60] 157 (0, 0))) ∧ Aside0 (Below w.heap.size w w'))
  case atStart => exact ⟨0, rfl, Int.le_refl _, rfl, ⟨HO.out⟩, ⟨HX.out⟩, ⟨HB.out⟩⟩
  case round =>
    clear HO HX HB
    obtain ⟨b, hkb, hb0, rfl, HO, HX, HB⟩ := hrel
    have hb8 : b = 0 ∨ b = 1 ∨ b = 2 ∨ b = 3 ∨ b = 4 ∨ b = 5 ∨ b = 6 ∨ b = 7 ∨ b = 8 := by omega
    rcases hb8 with rfl | rfl | rfl | rfl | rfl | rfl | rfl | rfl | rfl
    · obtain ⟨As, cs, hsl, hcs, hCs⟩ := seg_cut HR0.out HC0.out 0 3 (by decide) (by decide) (by omega)
      have HCS := Aside0.mk hcs; have HRS := Aside0.mk hCs
      clear hcs hCs
      obtain rfl : gk = 7 + 1 := by omega
      clear hkb hb0
      have ca : wr.cell? ⟨bx, 0, none⟩ = some (.int .i64 0) := by simp [World.cell?, HX.out]
      have cb : wr.cell? ⟨bx, 1, none⟩ = some (.int .i64 3) := by simp [World.cell?, HX.out]
      obtain ⟨hy, hz⟩ := Kd.R_celln 0 HO.out 0 (by decide) (by decide)
      simp only [Int.reduceToNat] at hy hz
      have hwr : IntKind.i64.wrap 1 = 1 := by decide +kernel
      go_wp2
      go_still_tail 13, (by kernel_rfl)
      still_call (band_energy.same k As cs (seg l0 0 3) e0 _ (Kd.C_below HRS.out (below_drew HB.out)) HCS.out q0.out)
      repeat still_step
      refine wpStill_nil ?_
      change wpList _ _ _ _ _ wr.drew
      have HO2 := Aside0.mk (Kd.R_drew HO.out)
      have HX2 : Aside0 (wr.drew.heap[bx]? = _) := ⟨HX.out⟩
      have HB2 := Aside0.mk (below_drew HB.out)
      clear HO HX HB ca cb hy hz hsl hwr HCS HRS
      generalize wr.drew = wd at HO2 HX2 HB2 ⊢
      obtain ⟨hy, hz⟩ := Kd.R_celln 0 HO2.out 0 (by decide) (by decide)
      simp only [Int.reduceToNat] at hy hz
      have HP := Kd.R_putg HO2.out (0 : Int) e0
      refine store_event (t := 90) (p := 34) (v := ?vo0) (w1 := wd.setCell ⟨go, Int.toNat 0, none⟩ (.int .u64 e0)) ?hg0 ?ho0 ?hn0 ?hr0 ?_
      (case ho0 => rfl); (case hg0 => rfl); (case hn0 => rfl); (case hr0 => first | (go_simp; done) | (go_simp; rfl))
      intro w5 hw
      have hg : wd.grownBy w5 (some go) := by rw [hw]; exact HP.2
      have HO3 : Aside0 (Kd.R (Kd.int .u64) 90 w5 w.heap.size (fun _ => True) (.slice (some ⟨go, 0, none⟩) 8 co) (enUpto [e0, e1, e2, e3, e4, e5, e6, e7] 1)) := ⟨by rw [hw]; exact HP.1⟩
      have HX3 : Aside0 (w5.heap[bx]? = _) := ⟨blk_grown HX2.out hg (Kd.R_ne HO2.out HX2.out (by decide))⟩
      have HB3 : Aside0 (Below w.heap.size w w5) := ⟨by rw [hw]; exact below_set HB2.out GB.out⟩
      clear HP hy hz HO2 HX2 HB2 hg hw
      go_wp2
      go_roundg 7
      case measure => omega
      case rel => exact ⟨1, by decide, by decide, (by first | rfl | (simp; done)), ⟨HO3.out⟩, ⟨HX3.out⟩, ⟨HB3.out⟩⟩
    · obtain ⟨As, cs, hsl, hcs, hCs⟩ := seg_cut HR0.out HC0.out 3 6 (by decide) (by decide) (by omega)
      have HCS := Aside0.mk hcs; have HRS := Aside0.mk hCs
      clear hcs hCs
      obtain rfl : gk = 6 + 1 := by omega
      clear hkb hb0
      have ca : wr.cell? ⟨bx, 1, none⟩ = some (.int .i64 3) := by simp [World.cell?, HX.out]
      have cb : wr.cell? ⟨bx, 2, none⟩ = some (.int .i64 6) := by simp [World.cell?, HX.out]
      obtain ⟨hy, hz⟩ := Kd.R_celln 0 HO.out 1 (by decide) (by decide)
      simp only [Int.reduceToNat] at hy hz
      have hwr : IntKind.i64.wrap 2 = 2 := by decide +kernel
      go_wp2
      go_still_tail 13, (by kernel_rfl)
      still_call (band_energy.same k As cs (seg l0 3 6) e1 _ (Kd.C_below HRS.out (below_drew HB.out)) HCS.out q1.out)
      repeat still_step
      refine wpStill_nil ?_
      change wpList _ _ _ _ _ wr.drew
      have HO2 := Aside0.mk (Kd.R_drew HO.out)
      have HX2 : Aside0 (wr.drew.heap[bx]? = _) := ⟨HX.out⟩
      have HB2 := Aside0.mk (below_drew HB.out)
      clear HO HX HB ca cb hy hz hsl hwr HCS HRS
      generalize wr.drew = wd at HO2 HX2 HB2 ⊢
      obtain ⟨hy, hz⟩ := Kd.R_celln 0 HO2.out 1 (by decide) (by decide)
      simp only [Int.reduceToNat] at hy hz
      have HP := Kd.R_putg HO2.out (1 : Int) e1
      refine store_event (t := 90) (p := 34) (v := ?vo1) (w1 := wd.setCell ⟨go, Int.toNat 1, none⟩ (.int .u64 e1)) ?hg1 ?ho1 ?hn1 ?hr1 ?_
      (case ho1 => rfl); (case hg1 => rfl); (case hn1 => rfl); (case hr1 => first | (go_simp; done) | (go_simp; rfl))
      intro w5 hw
      have hg : wd.grownBy w5 (some go) := by rw [hw]; exact HP.2
      have HO3 : Aside0 (Kd.R (Kd.int .u64) 90 w5 w.heap.size (fun _ => True) (.slice (some ⟨go, 0, none⟩) 8 co) (enUpto [e0, e1, e2, e3, e4, e5, e6, e7] 2)) := ⟨by rw [hw]; exact HP.1⟩
      have HX3 : Aside0 (w5.heap[bx]? = _) := ⟨blk_grown HX2.out hg (Kd.R_ne HO2.out HX2.out (by decide))⟩
      have HB3 : Aside0 (Below w.heap.size w w5) := ⟨by rw [hw]; exact below_set HB2.out GB.out⟩
      clear HP hy hz HO2 HX2 HB2 hg hw
      go_wp2
      go_roundg 6
      case measure => omega
      case rel => exact ⟨2, by decide, by decide, (by first | rfl | (simp; done)), ⟨HO3.out⟩, ⟨HX3.out⟩, ⟨HB3.out⟩⟩
    · obtain ⟨As, cs, hsl, hcs, hCs⟩ := seg_cut HR0.out HC0.out 6 10 (by decide) (by decide) (by omega)
      have HCS := Aside0.mk hcs; have HRS := Aside0.mk hCs
      clear hcs hCs
      obtain rfl : gk = 5 + 1 := by omega
      clear hkb hb0
      have ca : wr.cell? ⟨bx, 2, none⟩ = some (.int .i64 6) := by simp [World.cell?, HX.out]
      have cb : wr.cell? ⟨bx, 3, none⟩ = some (.int .i64 10) := by simp [World.cell?, HX.out]
      obtain ⟨hy, hz⟩ := Kd.R_celln 0 HO.out 2 (by decide) (by decide)
      simp only [Int.reduceToNat] at hy hz
      have hwr : IntKind.i64.wrap 3 = 3 := by decide +kernel
      go_wp2
      go_still_tail 13, (by kernel_rfl)
      still_call (band_energy.same k As cs (seg l0 6 10) e2 _ (Kd.C_below HRS.out (below_drew HB.out)) HCS.out q2.out)
      repeat still_step
      refine wpStill_nil ?_
      change wpList _ _ _ _ _ wr.drew
      have HO2 := Aside0.mk (Kd.R_drew HO.out)
      have HX2 : Aside0 (wr.drew.heap[bx]? = _) := ⟨HX.out⟩
      have HB2 := Aside0.mk (below_drew HB.out)
      clear HO HX HB ca cb hy hz hsl hwr HCS HRS
      generalize wr.drew = wd at HO2 HX2 HB2 ⊢
      obtain ⟨hy, hz⟩ := Kd.R_celln 0 HO2.out 2 (by decide) (by decide)
      simp only [Int.reduceToNat] at hy hz
      have HP := Kd.R_putg HO2.out (2 : Int) e2
      refine store_event (t := 90) (p := 34) (v := ?vo2) (w1 := wd.setCell ⟨go, Int.toNat 2, none⟩ (.int .u64 e2)) ?hg2 ?ho2 ?hn2 ?hr2 ?_
      (case ho2 => rfl); (case hg2 => rfl); (case hn2 => rfl); (case hr2 => first | (go_simp; done) | (go_simp; rfl))
      intro w5 hw
      have hg : wd.grownBy w5 (some go) := by rw [hw]; exact HP.2
      have HO3 : Aside0 (Kd.R (Kd.int .u64) 90 w5 w.heap.size (fun _ => True) (.slice (some ⟨go, 0, none⟩) 8 co) (enUpto [e0, e1, e2, e3, e4, e5, e6, e7] 3)) := ⟨by rw [hw]; exact HP.1⟩
      have HX3 : Aside0 (w5.heap[bx]? = _) := ⟨blk_grown HX2.out hg (Kd.R_ne HO2.out HX2.out (by decide))⟩
      have HB3 : Aside0 (Below w.heap.size w w5) := ⟨by rw [hw]; exact below_set HB2.out GB.out⟩
      clear HP hy hz HO2 HX2 HB2 hg hw
      go_wp2
      go_roundg 5
      case measure => omega
      case rel => exact ⟨3, by decide, by decide, (by first | rfl | (simp; done)), ⟨HO3.out⟩, ⟨HX3.out⟩, ⟨HB3.out⟩⟩
    · obtain ⟨As, cs, hsl, hcs, hCs⟩ := seg_cut HR0.out HC0.out 10 16 (by decide) (by decide) (by omega)
      have HCS := Aside0.mk hcs; have HRS := Aside0.mk hCs
      clear hcs hCs
      obtain rfl : gk = 4 + 1 := by omega
      clear hkb hb0
      have ca : wr.cell? ⟨bx, 3, none⟩ = some (.int .i64 10) := by simp [World.cell?, HX.out]
      have cb : wr.cell? ⟨bx, 4, none⟩ = some (.int .i64 16) := by simp [World.cell?, HX.out]
      obtain ⟨hy, hz⟩ := Kd.R_celln 0 HO.out 3 (by decide) (by decide)
      simp only [Int.reduceToNat] at hy hz
      have hwr : IntKind.i64.wrap 4 = 4 := by decide +kernel
      go_wp2
      go_still_tail 13, (by kernel_rfl)
      still_call (band_energy.same k As cs (seg l0 10 16) e3 _ (Kd.C_below HRS.out (below_drew HB.out)) HCS.out q3.out)
      repeat still_step
      refine wpStill_nil ?_
      change wpList _ _ _ _ _ wr.drew
      have HO2 := Aside0.mk (Kd.R_drew HO.out)
      have HX2 : Aside0 (wr.drew.heap[bx]? = _) := ⟨HX.out⟩
      have HB2 := Aside0.mk (below_drew HB.out)
      clear HO HX HB ca cb hy hz hsl hwr HCS HRS
      generalize wr.drew = wd at HO2 HX2 HB2 ⊢
      obtain ⟨hy, hz⟩ := Kd.R_celln 0 HO2.out 3 (by decide) (by decide)
      simp only [Int.reduceToNat] at hy hz
      have HP := Kd.R_putg HO2.out (3 : Int) e3
      refine store_event (t := 90) (p := 34) (v := ?vo3) (w1 := wd.setCell ⟨go, Int.toNat 3, none⟩ (.int .u64 e3)) ?hg3 ?ho3 ?hn3 ?hr3 ?_
      (case ho3 => rfl); (case hg3 => rfl); (case hn3 => rfl); (case hr3 => first | (go_simp; done) | (go_simp; rfl))
      intro w5 hw
      have hg : wd.grownBy w5 (some go) := by rw [hw]; exact HP.2
      have HO3 : Aside0 (Kd.R (Kd.int .u64) 90 w5 w.heap.size (fun _ => True) (.slice (some ⟨go, 0, none⟩) 8 co) (enUpto [e0, e1, e2, e3, e4, e5, e6, e7] 4)) := ⟨by rw [hw]; exact HP.1⟩
      have HX3 : Aside0 (w5.heap[bx]? = _) := ⟨blk_grown HX2.out hg (Kd.R_ne HO2.out HX2.out (by decide))⟩
      have HB3 : Aside0 (Below w.heap.size w w5) := ⟨by rw [hw]; exact below_set HB2.out GB.out⟩
      clear HP hy hz HO2 HX2 HB2 hg hw
      go_wp2
      go_roundg 4
      case measure => omega
      case rel => exact ⟨4, by decide, by decide, (by first | rfl | (simp; done)), ⟨HO3.out⟩, ⟨HX3.out⟩, ⟨HB3.out⟩⟩
    · obtain ⟨As, cs, hsl, hcs, hCs⟩ := seg_cut HR0.out HC0.out 16 24 (by decide) (by decide) (by omega)
      have HCS := Aside0.mk hcs; have HRS := Aside0.mk hCs
      clear hcs hCs
      obtain rfl : gk = 3 + 1 := by omega
      clear hkb hb0
      have ca : wr.cell? ⟨bx, 4, none⟩ = some (.int .i64 16) := by simp [World.cell?, HX.out]
      have cb : wr.cell? ⟨bx, 5, none⟩ = some (.int .i64 24) := by simp [World.cell?, HX.out]
      obtain ⟨hy, hz⟩ := Kd.R_celln 0 HO.out 4 (by decide) (by decide)
      simp only [Int.reduceToNat] at hy hz
      have hwr : IntKind.i64.wrap 5 = 5 := by decide +kernel
      go_wp2
      go_still_tail 13, (by kernel_rfl)
      still_call (band_energy.same k As cs (seg l0 16 24) e4 _ (Kd.C_below HRS.out (below_drew HB.out)) HCS.out q4.out)
      repeat still_step
      refine wpStill_nil ?_
      change wpList _ _ _ _ _ wr.drew
      have HO2 := Aside0.mk (Kd.R_drew HO.out)
      have HX2 : Aside0 (wr.drew.heap[bx]? = _) := ⟨HX.out⟩
      have HB2 := Aside0.mk (below_drew HB.out)
      clear HO HX HB ca cb hy hz hsl hwr HCS HRS
      generalize wr.drew = wd at HO2 HX2 HB2 ⊢
      obtain ⟨hy, hz⟩ := Kd.R_celln 0 HO2.out 4 (by decide) (by decide)
      simp only [Int.reduceToNat] at hy hz
      have HP := Kd.R_putg HO2.out (4 : Int) e4
      refine store_event (t := 90) (p := 34) (v := ?vo4) (w1 := wd.setCell ⟨go, Int.toNat 4, none⟩ (.int .u64 e4)) ?hg4 ?ho4 ?hn4 ?hr4 ?_
      (case ho4 => rfl); (case hg4 => rfl); (case hn4 => rfl); (case hr4 => first | (go_simp; done) | (go_simp; rfl))
      intro w5 hw
      have hg : wd.grownBy w5 (some go) := by rw [hw]; exact HP.2
      have HO3 : Aside0 (Kd.R (Kd.int .u64) 90 w5 w.heap.size (fun _ => True) (.slice (some ⟨go, 0, none⟩) 8 co) (enUpto [e0, e1, e2, e3, e4, e5, e6, e7] 5)) := ⟨by rw [hw]; exact HP.1⟩
      have HX3 : Aside0 (w5.heap[bx]? = _) := ⟨blk_grown HX2.out hg (Kd.R_ne HO2.out HX2.out (by decide))⟩
      have HB3 : Aside0 (Below w.heap.size w w5) := ⟨by rw [hw]; exact below_set HB2.out GB.out⟩
      clear HP hy hz HO2 HX2 HB2 hg hw
      go_wp2
      go_roundg 3
      case measure => omega
      case rel => exact ⟨5, by decide, by decide, (by first | rfl | (simp; done)), ⟨HO3.out⟩, ⟨HX3.out⟩, ⟨HB3.out⟩⟩
    · obtain ⟨As, cs, hsl, hcs, hCs⟩ := seg_cut HR0.out HC0.out 24 34 (by decide) (by decide) (by omega)
      have HCS := Aside0.mk hcs; have HRS := Aside0.mk hCs
      clear hcs hCs
      obtain rfl : gk = 2 + 1 := by omega
      clear hkb hb0
      have ca : wr.cell? ⟨bx, 5, none⟩ = some (.int .i64 24) := by simp [World.cell?, HX.out]
      have cb : wr.cell? ⟨bx, 6, none⟩ = some (.int .i64 34) := by simp [World.cell?, HX.out]
      obtain ⟨hy, hz⟩ := Kd.R_celln 0 HO.out 5 (by decide) (by decide)
      simp only [Int.reduceToNat] at hy hz
      have hwr : IntKind.i64.wrap 6 = 6 := by decide +kernel
      go_wp2
      go_still_tail 13, (by kernel_rfl)
      still_call (band_energy.same k As cs (seg l0 24 34) e5 _ (Kd.C_below HRS.out (below_drew HB.out)) HCS.out q5.out)
      repeat still_step
      refine wpStill_nil ?_
      change wpList _ _ _ _ _ wr.drew
      have HO2 := Aside0.mk (Kd.R_drew HO.out)
      have HX2 : Aside0 (wr.drew.heap[bx]? = _) := ⟨HX.out⟩
      have HB2 := Aside0.mk (below_drew HB.out)
      clear HO HX HB ca cb hy hz hsl hwr HCS HRS
      generalize wr.drew = wd at HO2 HX2 HB2 ⊢
      obtain ⟨hy, hz⟩ := Kd.R_celln 0 HO2.out 5 (by decide) (by decide)
      simp only [Int.reduceToNat] at hy hz
      have HP := Kd.R_putg HO2.out (5 : Int) e5
      refine store_event (t := 90) (p := 34) (v := ?vo5) (w1 := wd.setCell ⟨go, Int.toNat 5, none⟩ (.int .u64 e5)) ?hg5 ?ho5 ?hn5 ?hr5 ?_
      (case ho5 => rfl); (case hg5 => rfl); (case hn5 => rfl); (case hr5 => first | (go_simp; done) | (go_simp; rfl))
      intro w5 hw
      have hg : wd.grownBy w5 (some go) := by rw [hw]; exact HP.2
      have HO3 : Aside0 (Kd.R (Kd.int .u64) 90 w5 w.heap.size (fun _ => True) (.slice (some ⟨go, 0, none⟩) 8 co) (enUpto [e0, e1, e2, e3, e4, e5, e6, e7] 6)) := ⟨by rw [hw]; exact HP.1⟩
      have HX3 : Aside0 (w5.heap[bx]? = _) := ⟨blk_grown HX2.out hg (Kd.R_ne HO2.out HX2.out (by decide))⟩
      have HB3 : Aside0 (Below w.heap.size w w5) := ⟨by rw [hw]; exact below_set HB2.out GB.out⟩
      clear HP hy hz HO2 HX2 HB2 hg hw
      go_wp2
      go_roundg 2
      case measure => omega
      case rel => exact ⟨6, by decide, by decide, (by first | rfl | (simp; done)), ⟨HO3.out⟩, ⟨HX3.out⟩, ⟨HB3.out⟩⟩
    · obtain ⟨As, cs, hsl, hcs, hCs⟩ := seg_cut HR0.out HC0.out 34 46 (by decide) (by decide) (by omega)
      have HCS := Aside0.mk hcs; have HRS := Aside0.mk hCs
      clear hcs hCs
      obtain rfl : gk = 1 + 1 := by omega
      clear hkb hb0
      have ca : wr.cell? ⟨bx, 6, none⟩ = some (.int .i64 34) := by simp [World.cell?, HX.out]
      have cb : wr.cell? ⟨bx, 7, none⟩ = some (.int .i64 46) := by simp [World.cell?, HX.out]
      obtain ⟨hy, hz⟩ := Kd.R_celln 0 HO.out 6 (by decide) (by decide)
      simp only [Int.reduceToNat] at hy hz
      have hwr : IntKind.i64.wrap 7 = 7 := by decide +kernel
      go_wp2
      go_still_tail 13, (by kernel_rfl)
      still_call (band_energy.same k As cs (seg l0 34 46) e6 _ (Kd.C_below HRS.out (below_drew HB.out)) HCS.out q6.out)
      repeat still_step
      refine wpStill_nil ?_
      change wpList _ _ _ _ _ wr.drew
      have HO2 := Aside0.mk (Kd.R_drew HO.out)
      have HX2 : Aside0 (wr.drew.heap[bx]? = _) := ⟨HX.out⟩
      have HB2 := Aside0.mk (below_drew HB.out)
      clear HO HX HB ca cb hy hz hsl hwr HCS HRS
      generalize wr.drew = wd at HO2 HX2 HB2 ⊢
      obtain ⟨hy, hz⟩ := Kd.R_celln 0 HO2.out 6 (by decide) (by decide)
      simp only [Int.reduceToNat] at hy hz
      have HP := Kd.R_putg HO2.out (6 : Int) e6
      refine store_event (t := 90) (p := 34) (v := ?vo6) (w1 := wd.setCell ⟨go, Int.toNat 6, none⟩ (.int .u64 e6)) ?hg6 ?ho6 ?hn6 ?hr6 ?_
      (case ho6 => rfl); (case hg6 => rfl); (case hn6 => rfl); (case hr6 => first | (go_simp; done) | (go_simp; rfl))
      intro w5 hw
      have hg : wd.grownBy w5 (some go) := by rw [hw]; exact HP.2
      have HO3 : Aside0 (Kd.R (Kd.int .u64) 90 w5 w.heap.size (fun _ => True) (.slice (some ⟨go, 0, none⟩) 8 co) (enUpto [e0, e1, e2, e3, e4, e5, e6, e7] 7)) := ⟨by rw [hw]; exact HP.1⟩
      have HX3 : Aside0 (w5.heap[bx]? = _) := ⟨blk_grown HX2.out hg (Kd.R_ne HO2.out HX2.out (by decide))⟩
      have HB3 : Aside0 (Below w.heap.size w w5) := ⟨by rw [hw]; exact below_set HB2.out GB.out⟩
      clear HP hy hz HO2 HX2 HB2 hg hw
      go_wp2
      go_roundg 1
      case measure => omega
      case rel => exact ⟨7, by decide, by decide, (by first | rfl | (simp; done)), ⟨HO3.out⟩, ⟨HX3.out⟩, ⟨HB3.out⟩⟩
    · obtain ⟨As, cs, hsl, hcs, hCs⟩ := seg_cut HR0.out HC0.out 46 60 (by decide) (by decide) (by omega)
      have HCS := Aside0.mk hcs; have HRS := Aside0.mk hCs
      clear hcs hCs
      obtain rfl : gk = 0 + 1 := by omega
      clear hkb hb0
      have ca : wr.cell? ⟨bx, 7, none⟩ = some (.int .i64 46) := by simp [World.cell?, HX.out]
      have cb : wr.cell? ⟨bx, 8, none⟩ = some (.int .i64 60) := by simp [World.cell?, HX.out]
      obtain ⟨hy, hz⟩ := Kd.R_celln 0 HO.out 7 (by decide) (by decide)
      simp only [Int.reduceToNat] at hy hz
      have hwr : IntKind.i64.wrap 8 = 8 := by decide +kernel
      go_wp2
      go_still_tail 13, (by kernel_rfl)
      still_call (band_energy.same k As cs (seg l0 46 60) e7 _ (Kd.C_below HRS.out (below_drew HB.out)) HCS.out q7.out)
      repeat still_step
      refine wpStill_nil ?_
      change wpList _ _ _ _ _ wr.drew
      have HO2 := Aside0.mk (Kd.R_drew HO.out)
      have HX2 : Aside0 (wr.drew.heap[bx]? = _) := ⟨HX.out⟩
      have HB2 := Aside0.mk (below_drew HB.out)
      clear HO HX HB ca cb hy hz hsl hwr HCS HRS
      generalize wr.drew = wd at HO2 HX2 HB2 ⊢
      obtain ⟨hy, hz⟩ := Kd.R_celln 0 HO2.out 7 (by decide) (by decide)
      simp only [Int.reduceToNat] at hy hz
      have HP := Kd.R_putg HO2.out (7 : Int) e7
      refine store_event (t := 90) (p := 34) (v := ?vo7) (w1 := wd.setCell ⟨go, Int.toNat 7, none⟩ (.int .u64 e7)) ?hg7 ?ho7 ?hn7 ?hr7 ?_
      (case ho7 => rfl); (case hg7 => rfl); (case hn7 => rfl); (case hr7 => first | (go_simp; done) | (go_simp; rfl))
      intro w5 hw
      have hg : wd.grownBy w5 (some go) := by rw [hw]; exact HP.2
      have HO3 : Aside0 (Kd.R (Kd.int .u64) 90 w5 w.heap.size (fun _ => True) (.slice (some ⟨go, 0, none⟩) 8 co) (enUpto [e0, e1, e2, e3, e4, e5, e6, e7] 8)) := ⟨by rw [hw]; exact HP.1⟩
      have HX3 : Aside0 (w5.heap[bx]? = _) := ⟨blk_grown HX2.out hg (Kd.R_ne HO2.out HX2.out (by decide))⟩
      have HB3 : Aside0 (Below w.heap.size w w5) := ⟨by rw [hw]; exact below_set HB2.out GB.out⟩
      clear HP hy hz HO2 HX2 HB2 hg hw
      go_wp2
      go_roundg 0
      case measure => omega
      case rel => exact ⟨8, by decide, by decide, (by first | rfl | (simp; done)), ⟨HO3.out⟩, ⟨HX3.out⟩, ⟨HB3.out⟩⟩
    · clear hkb hb0
      go_wp2
      go_ret2
      exact ⟨_, rfl, HO.out, HB.out⟩
theorem band_edges.at80 (m : Int) (h1 : 80 ≤ m) (h2 : m ≤ 80) (w : World) : Calls Try.prog 105 #[.int .i64 m] w fun e w' => e = .returned (.tuple #[.agg #[.int .i64 0, .int .i64 4, .int .i64 8, .int .i64 14, .int .i64 22, .int .i64 32, .int .i64 46, .int .i64 62, .int .i64 80], .bool true]) ∧ Below w.heap.size w w' := by
  obtain rfl : m = 80 := by omega
  exact band_edges.calls80 w
set_option maxHeartbeats 8000000 in
set_option maxRecDepth 100000 in
theorem band_Energies.calls80 (k : Nat) (A0 : Option Addr) (c0 : Nat) (l0 : List Int) (e0 e1 e2 e3 e4 e5 e6 e7 : Int) (w : World) (hr0 : Kd.C (Kd.int .i32) w A0 l0.length l0) (hc0 : l0.length ≤ c0) (hn : l0.length = 80)
    (q0 : Aside0 (band_energy.f k (seg l0 0 4) = some e0)) (q1 : Aside0 (band_energy.f k (seg l0 4 8) = some e1)) (q2 : Aside0 (band_energy.f k (seg l0 8 14) = some e2)) (q3 : Aside0 (band_energy.f k (seg l0 14 22) = some e3)) (q4 : Aside0 (band_energy.f k (seg l0 22 32) = some e4)) (q5 : Aside0 (band_energy.f k (seg l0 32 46) = some e5)) (q6 : Aside0 (band_energy.f k (seg l0 46 62) = some e6)) (q7 : Aside0 (band_energy.f k (seg l0 62 80) = some e7)) :
    Calls Try.prog 88 #[.slice A0 l0.length c0] w fun e w' => ∃ v0_ : Value, e = .returned (.tuple #[v0_, .int .i64 0]) ∧ Kd.R (Kd.int .u64) 90 w' w.heap.size (fun _ => True) v0_ [e0, e1, e2, e3, e4, e5, e6, e7] ∧ Below w.heap.size w w' := by
  have HR0 := Aside0.mk hr0
  have HC0 := Aside0.mk hc0
  clear hr0 hc0
  have hn1 : 80 ≤ l0.length := by omega
  have hn2 : l0.length ≤ 80 := by omega
  clear hn
  have HB := Aside0.mk (Below.refl w.heap.size w)
  go_enter Try.func88, Try.ntmps88
  go_wp2_with (first | (go_at_call 105; refine (band_edges.at80 _ (by omega) (by omega) _).mono ?_; rintro e w1 ⟨rfl, hb⟩; have n1_ := Aside0.mk (below_alloc hb (.cells #[.int .i64 0, .int .i64 4, .int .i64 8, .int .i64 14, .int .i64 22, .int .i64 32, .int .i64 46, .int .i64 62, .int .i64 80] 157)); have nb_ := Aside0.mk (blk_new w1 (.cells #[.int .i64 0, .int .i64 4, .int .i64 8, .int .i64 14, .int .i64 22, .int .i64 32, .int .i64 46, .int .i64 62, .int .i64 80] 157)); clear HB; have HB := n1_; have HX := nb_; clear n1_ nb_ hb) | ((with_reducible refine gate_dst (N := 16) rfl ?_); refine Kd.R_make (Kd.int .u64) _ 90 rfl (N := 16) rfl 106 _ _ rfl 8 rfl rfl Try.underlying106 (.int .u64 0) 8 info90 rfl (by decide) (by omega) 0 (ok := fun _ => True) (okp := fun _ => True) rfl (fun _ hk => hk) trivial (by omega) (by omega) (Below.refl _ _) (Nat.le_refl _) ?_; intro v102 w3 ho4 hb hg_ hnew_; clear hg_ hnew_; simp only [Int.reduceToNat] at ho4; have n0_ := Aside0.mk (Kd.R_lower ho4 (below_size HB.out)); have n1_ := Aside0.mk (below_step HB.out hb); have nb_ := Aside0.mk ((hb.block _ (blk_lt HX.out)).trans HX.out); clear HB HX; have HO := n0_; have HB := n1_; have HX := nb_; clear n0_ n1_ nb_; clear hb ho4; obtain ⟨go, co, eo, gb, gl, cl, HG⟩ := Kd.R_form HO.out (by decide); subst eo; have GB := Aside0.mk gb; clear gb gl HG cl))
  generalize hbx : w1.heap.size = bx at HX ⊢
  clear hbx
  go_loopg [7, 19, 21, 22, 23, 24, 25, 26, 27, 28, 29, 30, 31, 32, 33, 34] 8 (fun kq v7 v19 v21 v22 v23 v24 v25 v26 v27 v28 v29 v30 v31 v32 v33 v34 w' => ∃ b : Int, (kq : Int) + b = 8 ∧ 0 ≤ b ∧ v19 = .int .i64 b ∧ Aside0 (Kd.R (Kd.int .u64) 90 w' w.heap.size (fun _ => True) (.slice (some ⟨go, 0, none⟩) 8 co) (enUpto [e0, e1, e2, e3, e4, e5, e6, e7] b)) ∧ Aside0 (w'.heap[bx]? = some (.cells #[.int .i64 0, .int .i64 4, .int .i64 8, .int .i64 14, .int .i64 22, .int .i64 32, .int .i64 46, .int .i64 62, .int .i64 80] 157 (0, 0))) ∧ Aside0 (Below w.heap.size w w'))
  case atStart => exact ⟨0, rfl, Int.le_refl _, rfl, ⟨HO.out⟩, ⟨HX.out⟩, ⟨HB.out⟩⟩
  case round =>
    clear HO HX HB
    obtain ⟨b, hkb, hb0, rfl, HO, HX, HB⟩ := hrel
    have hb8 : b = 0 ∨ b = 1 ∨ b = 2 ∨ b = 3 ∨ b = 4 ∨ b = 5 ∨ b = 6 ∨ b = 7 ∨ b = 8 := by omega
    rcases hb8 with rfl | rfl | rfl | rfl | rfl | rfl | rfl | rfl | rfl
    · obtain ⟨As, cs, hsl, hcs, hCs⟩ := seg_cut HR0.out HC0.out 0 4 (by decide) (by decide) (by omega)
      have HCS := Aside0.mk hcs; have HRS := Aside0.mk hCs
      clear hcs hCs
      obtain rfl : gk = 7 + 1 := by omega
      clear hkb hb0
      have ca : wr.cell? ⟨bx, 0, none⟩ = some (.int .i64 0) := by simp [World.cell?, HX.out]
      have cb : wr.cell? ⟨bx, 1, none⟩ = some (.int .i64 4) := by simp [World.cell?, HX.out]
      obtain ⟨hy, hz⟩ := Kd.R_celln 0 HO.out 0 (by decide) (by decide)
      simp only [Int.reduceToNat] at hy hz
      have hwr : IntKind.i64.wrap 1 = 1 := by decide +kernel
      go_wp2
      go_still_tail 13, (by kernel_rfl)
      still_call (band_energy.same k As cs (seg l0 0 4) e0 _ (Kd.C_below HRS.out (below_drew HB.out)) HCS.out q0.out)
      repeat still_step
      refine wpStill_nil ?_
      change wpList _ _ _ _ _ wr.drew
      have HO2 := Aside0.mk (Kd.R_drew HO.out)
      have HX2 : Aside0 (wr.drew.heap[bx]? = _) := ⟨HX.out⟩
      have HB2 := Aside0.mk (below_drew HB.out)
      clear HO HX HB ca cb hy hz hsl hwr HCS HRS
      generalize wr.drew = wd at HO2 HX2 HB2 ⊢
      obtain ⟨hy, hz⟩ := Kd.R_celln 0 HO2.out 0 (by decide) (by decide)
      simp only [Int.reduceToNat] at hy hz
      have HP := Kd.R_putg HO2.out (0 : Int) e0
      refine store_event (t := 90) (p := 34) (v := ?vo0) (w1 := wd.setCell ⟨go, Int.toNat 0, none⟩ (.int .u64 e0)) ?hg0 ?ho0 ?hn0 ?hr0 ?_
      (case ho0 => rfl); (case hg0 => rfl); (case hn0 => rfl); (case hr0 => first | (go_simp; done) | (go_simp; rfl))
      intro w5 hw
      have hg : wd.grownBy w5 (some go) := by rw [hw]; exact HP.2
      have HO3 : Aside0 (Kd.R (Kd.int .u64) 90 w5 w.heap.size (fun _ => True) (.slice (some ⟨go, 0, none⟩) 8 co) (enUpto [e0, e1, e2, e3, e4, e5, e6, e7] 1)) := ⟨by rw [hw]; exact HP.1⟩
      have HX3 : Aside0 (w5.heap[bx]? = _) := ⟨blk_grown HX2.out hg (Kd.R_ne HO2.out HX2.out (by decide))⟩
      have HB3 : Aside0 (Below w.heap.size w w5) := ⟨by rw [hw]; exact below_set HB2.out GB.out⟩
      clear HP hy hz HO2 HX2 HB2 hg hw
      go_wp2
      go_roundg 7
      case measure => omega
      case rel => exact ⟨1, by decide, by decide, (by first | rfl | (simp; done)), ⟨HO3.out⟩, ⟨HX3.out⟩, ⟨HB3.out⟩⟩
    · obtain ⟨As, cs, hsl, hcs, hCs⟩ := seg_cut HR0.out HC0.out 4 8 (by decide) (by decide) (by omega)
      have HCS := Aside0.mk hcs; have HRS := Aside0.mk hCs
      clear hcs hCs
      obtain rfl : gk = 6 + 1 := by omega
      clear hkb hb0
      have ca : wr.cell? ⟨bx, 1, none⟩ = some (.int .i64 4) := by simp [World.cell?, HX.out]
      have cb : wr.cell? ⟨bx, 2, none⟩ = some (.int .i64 8) := by simp [World.cell?, HX.out]
      obtain ⟨hy, hz⟩ := Kd.R_celln 0 HO.out 1 (by decide) (by decide)
      simp only [Int.reduceToNat] at hy hz
      have hwr : IntKind.i64.wrap 2 = 2 := by decide +kernel
      go_wp2
      go_still_tail 13, (by kernel_rfl)
      still_call (band_energy.same k As cs (seg l0 4 8) e1 _ (Kd.C_below HRS.out (below_drew HB.out)) HCS.out q1.out)
      repeat still_step
      refine wpStill_nil ?_
      change wpList _ _ _ _ _ wr.drew
      have HO2 := Aside0.mk (Kd.R_drew HO.out)
      have HX2 : Aside0 (wr.drew.heap[bx]? = _) := ⟨HX.out⟩
      have HB2 := Aside0.mk (below_drew HB.out)
      clear HO HX HB ca cb hy hz hsl hwr HCS HRS
      generalize wr.drew = wd at HO2 HX2 HB2 ⊢
      obtain ⟨hy, hz⟩ := Kd.R_celln 0 HO2.out 1 (by decide) (by decide)
      simp only [Int.reduceToNat] at hy hz
      have HP := Kd.R_putg HO2.out (1 : Int) e1
      refine store_event (t := 90) (p := 34) (v := ?vo1) (w1 := wd.setCell ⟨go, Int.toNat 1, none⟩ (.int .u64 e1)) ?hg1 ?ho1 ?hn1 ?hr1 ?_
      (case ho1 => rfl); (case hg1 => rfl); (case hn1 => rfl); (case hr1 => first | (go_simp; done) | (go_simp; rfl))
      intro w5 hw
      have hg : wd.grownBy w5 (some go) := by rw [hw]; exact HP.2
      have HO3 : Aside0 (Kd.R (Kd.int .u64) 90 w5 w.heap.size (fun _ => True) (.slice (some ⟨go, 0, none⟩) 8 co) (enUpto [e0, e1, e2, e3, e4, e5, e6, e7] 2)) := ⟨by rw [hw]; exact HP.1⟩
      have HX3 : Aside0 (w5.heap[bx]? = _) := ⟨blk_grown HX2.out hg (Kd.R_ne HO2.out HX2.out (by decide))⟩
      have HB3 : Aside0 (Below w.heap.size w w5) := ⟨by rw [hw]; exact below_set HB2.out GB.out⟩
      clear HP hy hz HO2 HX2 HB2 hg hw
      go_wp2
      go_roundg 6
      case measure => omega
      case rel => exact ⟨2, by decide, by decide, (by first | rfl | (simp; done)), ⟨HO3.out⟩, ⟨HX3.out⟩, ⟨HB3.out⟩⟩
    · obtain ⟨As, cs, hsl, hcs, hCs⟩ := seg_cut HR0.out HC0.out 8 14 (by decide) (by decide) (by omega)
      have HCS := Aside0.mk hcs; have HRS := Aside0.mk hCs
      clear hcs hCs
      obtain rfl : gk = 5 + 1 := by omega
      clear hkb hb0
      have ca : wr.cell? ⟨bx, 2, none⟩ = some (.int .i64 8) := by simp [World.cell?, HX.out]
      have cb : wr.cell? ⟨bx, 3, none⟩ = some (.int .i64 14) := by simp [World.cell?, HX.out]
      obtain ⟨hy, hz⟩ := Kd.R_celln 0 HO.out 2 (by decide) (by decide)
      simp only [Int.reduceToNat] at hy hz
      have hwr : IntKind.i64.wrap 3 = 3 := by decide +kernel
      go_wp2
      go_still_tail 13, (by kernel_rfl)
      still_call (band_energy.same k As cs (seg l0 8 14) e2 _ (Kd.C_below HRS.out (below_drew HB.out)) HCS.out q2.out)
      repeat still_step
      refine wpStill_nil ?_
      change wpList _ _ _ _ _ wr.drew
      have HO2 := Aside0.mk (Kd.R_drew HO.out)
      have HX2 : Aside0 (wr.drew.heap[bx]? = _) := ⟨HX.out⟩
      have HB2 := Aside0.mk (below_drew HB.out)
      clear HO HX HB ca cb hy hz hsl hwr HCS HRS
      generalize wr.drew = wd at HO2 HX2 HB2 ⊢
      obtain ⟨hy, hz⟩ := Kd.R_celln 0 HO2.out 2 (by decide) (by decide)
      simp only [Int.reduceToNat] at hy hz
      have HP := Kd.R_putg HO2.out (2 : Int) e2
      refine store_event (t := 90) (p := 34) (v := ?vo2) (w1 := wd.setCell ⟨go, Int.toNat 2, none⟩ (.int .u64 e2)) ?hg2 ?ho2 ?hn2 ?hr2 ?_
      (case ho2 => rfl); (case hg2 => rfl); (case hn2 => rfl); (case hr2 => first | (go_simp; done) | (go_simp; rfl))
      intro w5 hw
      have hg : wd.grownBy w5 (some go) := by rw [hw]; exact HP.2
      have HO3 : Aside0 (Kd.R (Kd.int .u64) 90 w5 w.heap.size (fun _ => True) (.slice (some ⟨go, 0, none⟩) 8 co) (enUpto [e0, e1, e2, e3, e4, e5, e6, e7] 3)) := ⟨by rw [hw]; exact HP.1⟩
      have HX3 : Aside0 (w5.heap[bx]? = _) := ⟨blk_grown HX2.out hg (Kd.R_ne HO2.out HX2.out (by decide))⟩
      have HB3 : Aside0 (Below w.heap.size w w5) := ⟨by rw [hw]; exact below_set HB2.out GB.out⟩
      clear HP hy hz HO2 HX2 HB2 hg hw
      go_wp2
      go_roundg 5
      case measure => omega
      case rel => exact ⟨3, by decide, by decide, (by first | rfl | (simp; done)), ⟨HO3.out⟩, ⟨HX3.out⟩, ⟨HB3.out⟩⟩
    · obtain ⟨As, cs, hsl, hcs, hCs⟩ := seg_cut HR0.out HC0.out 14 22 (by decide) (by decide) (by omega)
      have HCS := Aside0.mk hcs; have HRS := Aside0.mk hCs
      clear hcs hCs
      obtain rfl : gk = 4 + 1 := by omega
      clear hkb hb0
      have ca : wr.cell? ⟨bx, 3, none⟩ = some (.int .i64 14) := by simp [World.cell?, HX.out]
      have cb : wr.cell? ⟨bx, 4, none⟩ = some (.int .i64 22) := by simp [World.cell?, HX.out]
      obtain ⟨hy, hz⟩ := Kd.R_celln 0 HO.out 3 (by decide) (by decide)
      simp only [Int.reduceToNat] at hy hz
      have hwr : IntKind.i64.wrap 4 = 4 := by decide +kernel
      go_wp2
      go_still_tail 13, (by kernel_rfl)
      still_call (band_energy.same k As cs (seg l0 14 22) e3 _ (Kd.C_below HRS.out (below_drew HB.out)) HCS.out q3.out)
      repeat still_step
      refine wpStill_nil ?_
      change wpList _ _ _ _ _ wr.drew
      have HO2 := Aside0.mk (Kd.R_drew HO.out)
      have HX2 : Aside0 (wr.drew.heap[bx]? = _) := ⟨HX.out⟩
      have HB2 := Aside0.mk (below_drew HB.out)
      clear HO HX HB ca cb hy hz hsl hwr HCS HRS
      generalize wr.drew = wd at HO2 HX2 HB2 ⊢
      obtain ⟨hy, hz⟩ := Kd.R_celln 0 HO2.out 3 (by decide) (by decide)
      simp only [Int.reduceToNat] at hy hz
      have HP := Kd.R_putg HO2.out (3 : Int) e3
      refine store_event (t := 90) (p := 34) (v := ?vo3) (w1 := wd.setCell ⟨go, Int.toNat 3, none⟩ (.int .u64 e3)) ?hg3 ?ho3 ?hn3 ?hr3 ?_
      (case ho3 => rfl); (case hg3 => rfl); (case hn3 => rfl); (case hr3 => first | (go_simp; done) | (go_simp; rfl))
      intro w5 hw
      have hg : wd.grownBy w5 (some go) := by rw [hw]; exact HP.2
      have HO3 : Aside0 (Kd.R (Kd.int .u64) 90 w5 w.heap.size (fun _ => True) (.slice (some ⟨go, 0, none⟩) 8 co) (enUpto [e0, e1, e2, e3, e4, e5, e6, e7] 4)) := ⟨by rw [hw]; exact HP.1⟩
      have HX3 : Aside0 (w5.heap[bx]? = _) := ⟨blk_grown HX2.out hg (Kd.R_ne HO2.out HX2.out (by decide))⟩
      have HB3 : Aside0 (Below w.heap.size w w5) := ⟨by rw [hw]; exact below_set HB2.out GB.out⟩
      clear HP hy hz HO2 HX2 HB2 hg hw
      go_wp2
      go_roundg 4
      case measure => omega
      case rel => exact ⟨4, by decide, by decide, (by first | rfl | (simp; done)), ⟨HO3.out⟩, ⟨HX3.out⟩, ⟨HB3.out⟩⟩
    · obtain ⟨As, cs, hsl, hcs, hCs⟩ := seg_cut HR0.out HC0.out 22 32 (by decide) (by decide) (by omega)
      have HCS := Aside0.mk hcs; have HRS := Aside0.mk hCs
      clear hcs hCs
      obtain rfl : gk = 3 + 1 := by omega
      clear hkb hb0
      have ca : wr.cell? ⟨bx, 4, none⟩ = some (.int .i64 22) := by simp [World.cell?, HX.out]
      have cb : wr.cell? ⟨bx, 5, none⟩ = some (.int .i64 32) := by simp [World.cell?, HX.out]
      obtain ⟨hy, hz⟩ := Kd.R_celln 0 HO.out 4 (by decide) (by decide)
      simp only [Int.reduceToNat] at hy hz
      have hwr : IntKind.i64.wrap 5 = 5 := by decide +kernel
      go_wp2
      go_still_tail 13, (by kernel_rfl)
      still_call (band_energy.same k As cs (seg l0 22 32) e4 _ (Kd.C_below HRS.out (below_drew HB.out)) HCS.out q4.out)
      repeat still_step
      refine wpStill_nil ?_
      change wpList _ _ _ _ _ wr.drew
      have HO2 := Aside0.mk (Kd.R_drew HO.out)
      have HX2 : Aside0 (wr.drew.heap[bx]? = _) := ⟨HX.out⟩
      have HB2 := Aside0.mk (below_drew HB.out)
      clear HO HX HB ca cb hy hz hsl hwr HCS HRS
      generalize wr.drew = wd at HO2 HX2 HB2 ⊢
      obtain ⟨hy, hz⟩ := Kd.R_celln 0 HO2.out 4 (by decide) (by decide)
      simp only [Int.reduceToNat] at hy hz
      have HP := Kd.R_putg HO2.out (4 : Int) e4
      refine store_event (t := 90) (p := 34) (v := ?vo4) (w1 := wd.setCell ⟨go, Int.toNat 4, none⟩ (.int .u64 e4)) ?hg4 ?ho4 ?hn4 ?hr4 ?_
      (case ho4 => rfl); (case hg4 => rfl); (case hn4 => rfl); (case hr4 => first | (go_simp; done) | (go_simp; rfl))
      intro w5 hw
      have hg : wd.grownBy w5 (some go) := by rw [hw]; exact HP.2
      have HO3 : Aside0 (Kd.R (Kd.int .u64) 90 w5 w.heap.size (fun _ => True) (.slice (some ⟨go, 0, none⟩) 8 co) (enUpto [e0, e1, e2, e3, e4, e5, e6, e7] 5)) := ⟨by rw [hw]; exact HP.1⟩
      have HX3 : Aside0 (w5.heap[bx]? = _) := ⟨blk_grown HX2.out hg (Kd.R_ne HO2.out HX2.out (by decide))⟩
      have HB3 : Aside0 (Below w.heap.size w w5) := ⟨by rw [hw]; exact below_set HB2.out GB.out⟩
      clear HP hy hz HO2 HX2 HB2 hg hw
      go_wp2
      go_roundg 3
      case measure => omega
      case rel => exact ⟨5, by decide, by decide, (by first | rfl | (simp; done)), ⟨HO3.out⟩, ⟨HX3.out⟩, ⟨HB3.out⟩⟩
    · obtain ⟨As, cs, hsl, hcs, hCs⟩ := seg_cut HR0.out HC0.out 32 46 (by decide) (by decide) (by omega)
      have HCS := Aside0.mk hcs; have HRS := Aside0.mk hCs
      clear hcs hCs
      obtain rfl : gk = 2 + 1 := by omega
      clear hkb hb0
      have ca : wr.cell? ⟨bx, 5, none⟩ = some (.int .i64 32) := by simp [World.cell?, HX.out]
      have cb : wr.cell? ⟨bx, 6, none⟩ = some (.int .i64 46) := by simp [World.cell?, HX.out]
      obtain ⟨hy, hz⟩ := Kd.R_celln 0 HO.out 5 (by decide) (by decide)
      simp only [Int.reduceToNat] at hy hz
      have hwr : IntKind.i64.wrap 6 = 6 := by decide +kernel
      go_wp2
      go_still_tail 13, (by kernel_rfl)
      still_call (band_energy.same k As cs (seg l0 32 46) e5 _ (Kd.C_below HRS.out (below_drew HB.out)) HCS.out q5.out)
      repeat still_step
      refine wpStill_nil ?_
      change wpList _ _ _ _ _ wr.drew
      have HO2 := Aside0.mk (Kd.R_drew HO.out)
      have HX2 : Aside0 (wr.drew.heap[bx]? = _) := ⟨HX.out⟩
      have HB2 := Aside0.mk (below_drew HB.out)
      clear HO HX HB ca cb hy hz hsl hwr HCS HRS
      generalize wr.drew = wd at HO2 HX2 HB2 ⊢
      obtain ⟨hy, hz⟩ := Kd.R_celln 0 HO2.out 5 (by decide) (by decide)
      simp only [Int.reduceToNat] at hy hz
      have HP := Kd.R_putg HO2.out (5 : Int) e5
      refine store_event (t := 90) (p := 34) (v := ?vo5) (w1 := wd.setCell ⟨go, Int.toNat 5, none⟩ (.int .u64 e5)) ?hg5 ?ho5 ?hn5 ?hr5 ?_
      (case ho5 => rfl); (case hg5 => rfl); (case hn5 => rfl); (case hr5 => first | (go_simp; done) | (go_simp; rfl))
      intro w5 hw
      have hg : wd.grownBy w5 (some go) := by rw [hw]; exact HP.2
      have HO3 : Aside0 (Kd.R (Kd.int .u64) 90 w5 w.heap.size (fun _ => True) (.slice (some ⟨go, 0, none⟩) 8 co) (enUpto [e0, e1, e2, e3, e4, e5, e6, e7] 6)) := ⟨by rw [hw]; exact HP.1⟩
      have HX3 : Aside0 (w5.heap[bx]? = _) := ⟨blk_grown HX2.out hg (Kd.R_ne HO2.out HX2.out (by decide))⟩
      have HB3 : Aside0 (Below w.heap.size w w5) := ⟨by rw [hw]; exact below_set HB2.out GB.out⟩
      clear HP hy hz HO2 HX2 HB2 hg hw
      go_wp2
      go_roundg 2
      case measure => omega
      case rel => exact ⟨6, by decide, by decide, (by first | rfl | (simp; done)), ⟨HO3.out⟩, ⟨HX3.out⟩, ⟨HB3.out⟩⟩
    · obtain ⟨As, cs, hsl, hcs, hCs⟩ := seg_cut HR0.out HC0.out 46 62 (by decide) (by decide) (by omega)
      have HCS := Aside0.mk hcs; have HRS := Aside0.mk hCs
      clear hcs hCs
      obtain rfl : gk = 1 + 1 := by omega
      clear hkb hb0
      have ca : wr.cell? ⟨bx, 6, none⟩ = some (.int .i64 46) := by simp [World.cell?, HX.out]
      have cb : wr.cell? ⟨bx, 7, none⟩ = some (.int .i64 62) := by simp [World.cell?, HX.out]
      obtain ⟨hy, hz⟩ := Kd.R_celln 0 HO.out 6 (by decide) (by decide)
      simp only [Int.reduceToNat] at hy hz
      have hwr : IntKind.i64.wrap 7 = 7 := by decide +kernel
      go_wp2
      go_still_tail 13, (by kernel_rfl)
      still_call (band_energy.same k As cs (seg l0 46 62) e6 _ (Kd.C_below HRS.out (below_drew HB.out)) HCS.out q6.out)
      repeat still_step
      refine wpStill_nil ?_
      change wpList _ _ _ _ _ wr.drew
      have HO2 := Aside0.mk (Kd.R_drew HO.out)
      have HX2 : Aside0 (wr.drew.heap[bx]? = _) := ⟨HX.out⟩
      have HB2 := Aside0.mk (below_drew HB.out)
      clear HO HX HB ca cb hy hz hsl hwr HCS HRS
      generalize wr.drew = wd at HO2 HX2 HB2 ⊢
      obtain ⟨hy, hz⟩ := Kd.R_celln 0 HO2.out 6 (by decide) (by decide)
      simp only [Int.reduceToNat] at hy hz
      have HP := Kd.R_putg HO2.out (6 : Int) e6
      refine store_event (t := 90) (p := 34) (v := ?vo6) (w1 := wd.setCell ⟨go, Int.toNat 6, none⟩ (.int .u64 e6)) ?hg6 ?ho6 ?hn6 ?hr6 ?_
      (case ho6 => rfl); (case hg6 => rfl); (case hn6 => rfl); (case hr6 => first | (go_simp; done) | (go_simp; rfl))
      intro w5 hw
      have hg : wd.grownBy w5 (some go) := by rw [hw]; exact HP.2
      have HO3 : Aside0 (Kd.R (Kd.int .u64) 90 w5 w.heap.size (fun _ => True) (.slice (some ⟨go, 0, none⟩) 8 co) (enUpto [e0, e1, e2, e3, e4, e5, e6, e7] 7)) := ⟨by rw [hw]; exact HP.1⟩
      have HX3 : Aside0 (w5.heap[bx]? = _) := ⟨blk_grown HX2.out hg (Kd.R_ne HO2.out HX2.out (by decide))⟩
      have HB3 : Aside0 (Below w.heap.size w w5) := ⟨by rw [hw]; exact below_set HB2.out GB.out⟩
      clear HP hy hz HO2 HX2 HB2 hg hw
      go_wp2
      go_roundg 1
      case measure => omega
      case rel => exact ⟨7, by decide, by decide, (by first | rfl | (simp; done)), ⟨HO3.out⟩, ⟨HX3.out⟩, ⟨HB3.out⟩⟩
    · obtain ⟨As, cs, hsl, hcs, hCs⟩ := seg_cut HR0.out HC0.out 62 80 (by decide) (by decide) (by omega)
      have HCS := Aside0.mk hcs; have HRS := Aside0.mk hCs
      clear hcs hCs
      obtain rfl : gk = 0 + 1 := by omega
      clear hkb hb0
      have ca : wr.cell? ⟨bx, 7, none⟩ = some (.int .i64 62) := by simp [World.cell?, HX.out]
      have cb : wr.cell? ⟨bx, 8, none⟩ = some (.int .i64 80) := by simp [World.cell?, HX.out]
      obtain ⟨hy, hz⟩ := Kd.R_celln 0 HO.out 7 (by decide) (by decide)
      simp only [Int.reduceToNat] at hy hz
      have hwr : IntKind.i64.wrap 8 = 8 := by decide +kernel
      go_wp2
      go_still_tail 13, (by kernel_rfl)
      still_call (band_energy.same k As cs (seg l0 62 80) e7 _ (Kd.C_below HRS.out (below_drew HB.out)) HCS.out q7.out)
      repeat still_step
      refine wpStill_nil ?_
      change wpList _ _ _ _ _ wr.drew
      have HO2 := Aside0.mk (Kd.R_drew HO.out)
      have HX2 : Aside0 (wr.drew.heap[bx]? = _) := ⟨HX.out⟩
      have HB2 := Aside0.mk (below_drew HB.out)
      clear HO HX HB ca cb hy hz hsl hwr HCS HRS
      generalize wr.drew = wd at HO2 HX2 HB2 ⊢
      obtain ⟨hy, hz⟩ := Kd.R_celln 0 HO2.out 7 (by decide) (by decide)
      simp only [Int.reduceToNat] at hy hz
      have HP := Kd.R_putg HO2.out (7 : Int) e7
      refine store_event (t := 90) (p := 34) (v := ?vo7) (w1 := wd.setCell ⟨go, Int.toNat 7, none⟩ (.int .u64 e7)) ?hg7 ?ho7 ?hn7 ?hr7 ?_
      (case ho7 => rfl); (case hg7 => rfl); (case hn7 => rfl); (case hr7 => first | (go_simp; done) | (go_simp; rfl))
      intro w5 hw
      have hg : wd.grownBy w5 (some go) := by rw [hw]; exact HP.2
      have HO3 : Aside0 (Kd.R (Kd.int .u64) 90 w5 w.heap.size (fun _ => True) (.slice (some ⟨go, 0, none⟩) 8 co) (enUpto [e0, e1, e2, e3, e4, e5, e6, e7] 8)) := ⟨by rw [hw]; exact HP.1⟩
      have HX3 : Aside0 (w5.heap[bx]? = _) := ⟨blk_grown HX2.out hg (Kd.R_ne HO2.out HX2.out (by decide))⟩
      have HB3 : Aside0 (Below w.heap.size w w5) := ⟨by rw [hw]; exact below_set HB2.out GB.out⟩
      clear HP hy hz HO2 HX2 HB2 hg hw
      go_wp2
      go_roundg 0
      case measure => omega
      case rel => exact ⟨8, by decide, by decide, (by first | rfl | (simp; done)), ⟨HO3.out⟩, ⟨HX3.out⟩, ⟨HB3.out⟩⟩
    · clear hkb hb0
      go_wp2
      go_ret2
      exact ⟨_, rfl, HO.out, HB.out⟩
theorem band_edges.at120 (m : Int) (h1 : 120 ≤ m) (h2 : m ≤ 120) (w : World) : Calls Try.prog 105 #[.int .i64 m] w fun e w' => e = .returned (.tuple #[.agg #[.int .i64 0, .int .i64 6, .int .i64 12, .int .i64 21, .int .i64 33, .int .i64 48, .int .i64 69, .int .i64 93, .int .i64 120], .bool true]) ∧ Below w.heap.size w w' := by
  obtain rfl : m = 120 := by omega
  exact band_edges.calls120 w
set_option maxHeartbeats 8000000 in
set_option maxRecDepth 100000 in
theorem band_Energies.calls120 (k : Nat) (A0 : Option Addr) (c0 : Nat) (l0 : List Int) (e0 e1 e2 e3 e4 e5 e6 e7 : Int) (w : World) (hr0 : Kd.C (Kd.int .i32) w A0 l0.length l0) (hc0 : l0.length ≤ c0) (hn : l0.length = 120)
    (q0 : Aside0 (band_energy.f k (seg l0 0 6) = some e0)) (q1 : Aside0 (band_energy.f k (seg l0 6 12) = some e1)) (q2 : Aside0 (band_energy.f k (seg l0 12 21) = some e2)) (q3 : Aside0 (band_energy.f k (seg l0 21 33) = some e3)) (q4 : Aside0 (band_energy.f k (seg l0 33 48) = some e4)) (q5 : Aside0 (band_energy.f k (seg l0 48 69) = some e5)) (q6 : Aside0 (band_energy.f k (seg l0 69 93) = some e6)) (q7 : Aside0 (band_energy.f k (seg l0 93 120) = some e7)) :
    Calls Try.prog 88 #[.slice A0 l0.length c0] w fun e w' => ∃ v0_ : Value, e = .returned (.tuple #[v0_, .int .i64 0]) ∧ Kd.R (Kd.int .u64) 90 w' w.heap.size (fun _ => True) v0_ [e0, e1, e2, e3, e4, e5, e6, e7] ∧ Below w.heap.size w w' := by
  have HR0 := Aside0.mk hr0
  have HC0 := Aside0.mk hc0
  clear hr0 hc0
  have hn1 : 120 ≤ l0.length := by omega
  have hn2 : l0.length ≤ 120 := by omega
  clear hn
  have HB := Aside0.mk (Below.refl w.heap.size w)
  go_enter Try.func88, Try.ntmps88
  go_wp2_with (first | (go_at_call 105; refine (band_edges.at120 _ (by omega) (by omega) _).mono ?_; rintro e w1 ⟨rfl, hb⟩; have n1_ := Aside0.mk (below_alloc hb (.cells #[.int .i64 0, .int .i64 6, .int .i64 12, .int .i64 21, .int .i64 33, .int .i64 48, .int .i64 69, .int .i64 93, .int .i64 120] 157)); have nb_ := Aside0.mk (blk_new w1 (.cells #[.int .i64 0, .int .i64 6, .int .i64 12, .int .i64 21, .int .i64 33, .int .i64 48, .int .i64 69, .int .i64 93, .int .i64 120] 157)); clear HB; have HB := n1_; have HX := nb_; clear n1_ nb_ hb) | ((with_reducible refine gate_dst (N := 16) rfl ?_); refine Kd.R_make (Kd.int .u64) _ 90 rfl (N := 16) rfl 106 _ _ rfl 8 rfl rfl Try.underlying106 (.int .u64 0) 8 info90 rfl (by decide) (by omega) 0 (ok := fun _ => True) (okp := fun _ => True) rfl (fun _ hk => hk) trivial (by omega) (by omega) (Below.refl _ _) (Nat.le_refl _) ?_; intro v102 w3 ho4 hb hg_ hnew_; clear hg_ hnew_; simp only [Int.reduceToNat] at ho4; have n0_ := Aside0.mk (Kd.R_lower ho4 (below_size HB.out)); have n1_ := Aside0.mk (below_step HB.out hb); have nb_ := Aside0.mk ((hb.block _ (blk_lt HX.out)).trans HX.out); clear HB HX; have HO := n0_; have HB := n1_; have HX := nb_; clear n0_ n1_ nb_; clear hb ho4; obtain ⟨go, co, eo, gb, gl, cl, HG⟩ := Kd.R_form HO.out (by decide); subst eo; have GB := Aside0.mk gb; clear gb gl HG cl))
  generalize hbx : w1.heap.size = bx at HX ⊢
  clear hbx
  go_loopg [7, 19, 21, 22, 23, 24, 25, 26, 27, 28, 29, 30, 31, 32, 33, 34] 8 (fun kq v7 v19 v21 v22 v23 v24 v25 v26 v27 v28 v29 v30 v31 v32 v33 v34 w' => ∃ b : Int, (kq : Int) + b = 8 ∧ 0 ≤ b ∧ v19 = .int .i64 b ∧ Aside0 (Kd.R (Kd.int .u64) 90 w' w.heap.size (fun _ => True) (.slice (some ⟨go, 0, none⟩) 8 co) (enUpto [e0, e1, e2, e3, e4, e5, e6, e7] b)) ∧ Aside0 (w'.heap[bx]? = some (.cells #[.int .i64 0, .int .i64 6, .int .i64 12, .int .i64 21, .int .i64 33, .int .i64 48, .int .i64 69, .int .i64 93, .int .i64 120] 157 (0, 0))) ∧ Aside0 (Below w.heap.size w w'))
  case atStart => exact ⟨0, rfl, Int.le_refl _, rfl, ⟨HO.out⟩, ⟨HX.out⟩, ⟨HB.out⟩⟩
  case round =>
    clear HO HX HB
    obtain ⟨b, hkb, hb0, rfl, HO, HX, HB⟩ := hrel
    have hb8 : b = 0 ∨ b = 1 ∨ b = 2 ∨ b = 3 ∨ b = 4 ∨ b = 5 ∨ b = 6 ∨ b = 7 ∨ b = 8 := by omega
    rcases hb8 with rfl | rfl | rfl | rfl | rfl | rfl | rfl | rfl | rfl
    · obtain ⟨As, cs, hsl, hcs, hCs⟩ := seg_cut HR0.out HC0.out 0 6 (by decide) (by decide) (by omega)
      have HCS := Aside0.mk hcs; have HRS := Aside0.mk hCs
      clear hcs hCs
      obtain rfl : gk = 7 + 1 := by omega
      clear hkb hb0
      have ca : wr.cell? ⟨bx, 0, none⟩ = some (.int .i64 0) := by simp [World.cell?, HX.out]
      have cb : wr.cell? ⟨bx, 1, none⟩ = some (.int .i64 6) := by simp [World.cell?, HX.out]
      obtain ⟨hy, hz⟩ := Kd.R_celln 0 HO.out 0 (by decide) (by decide)
      simp only [Int.reduceToNat] at hy hz
      have hwr : IntKind.i64.wrap 1 = 1 := by decide +kernel
      go_wp2
      go_still_tail 13, (by kernel_rfl)
      still_call (band_energy.same k As cs (seg l0 0 6) e0 _ (Kd.C_below HRS.out (below_drew HB.out)) HCS.out q0.out)
      repeat still_step
      refine wpStill_nil ?_
      change wpList _ _ _ _ _ wr.drew
      have HO2 := Aside0.mk (Kd.R_drew HO.out)
      have HX2 : Aside0 (wr.drew.heap[bx]? = _) := ⟨HX.out⟩
      have HB2 := Aside0.mk (below_drew HB.out)
      clear HO HX HB ca cb hy hz hsl hwr HCS HRS
      generalize wr.drew = wd at HO2 HX2 HB2 ⊢
      obtain ⟨hy, hz⟩ := Kd.R_celln 0 HO2.out 0 (by decide) (by decide)
      simp only [Int.reduceToNat] at hy hz
      have HP := Kd.R_putg HO2.out (0 : Int) e0
      refine store_event (t := 90) (p := 34) (v := ?vo0) (w1 := wd.setCell ⟨go, Int.toNat 0, none⟩ (.int .u64 e0)) ?hg0 ?ho0 ?hn0 ?hr0 ?_
      (case ho0 => rfl); (case hg0 => rfl); (case hn0 => rfl); (case hr0 => first | (go_simp; done) | (go_simp; rfl))
      intro w5 hw
      have hg : wd.grownBy w5 (some go) := by rw [hw]; exact HP.2
      have HO3 : Aside0 (Kd.R (Kd.int .u64) 90 w5 w.heap.size (fun _ => True) (.slice (some ⟨go, 0, none⟩) 8 co) (enUpto [e0, e1, e2, e3, e4, e5, e6, e7] 1)) := ⟨by rw [hw]; exact HP.1⟩
      have HX3 : Aside0 (w5.heap[bx]? = _) := ⟨blk_grown HX2.out hg (Kd.R_ne HO2.out HX2.out (by decide))⟩
      have HB3 : Aside0 (Below w.heap.size w w5) := ⟨by rw [hw]; exact below_set HB2.out GB.out⟩
      clear HP hy hz HO2 HX2 HB2 hg hw
      go_wp2
      go_roundg 7
      case measure => omega
      case rel => exact ⟨1, by decide, by decide, (by first | rfl | (simp; done)), ⟨HO3.out⟩, ⟨HX3.out⟩, ⟨HB3.out⟩⟩
    · obtain ⟨As, cs, hsl, hcs, hCs⟩ := seg_cut HR0.out HC0.out 6 12 (by decide) (by decide) (by omega)
      have HCS := Aside0.mk hcs; have HRS := Aside0.mk hCs
      clear hcs hCs
      obtain rfl : gk = 6 + 1 := by omega
      clear hkb hb0
      have ca : wr.cell? ⟨bx, 1, none⟩ = some (.int .i64 6) := by simp [World.cell?, HX.out]
      have cb : wr.cell? ⟨bx, 2, none⟩ = some (.int .i64 12) := by simp [World.cell?, HX.out]
      obtain ⟨hy, hz⟩ := Kd.R_celln 0 HO.out 1 (by decide) (by decide)
      simp only [Int.reduceToNat] at hy hz
      have hwr : IntKind.i64.wrap 2 = 2 := by decide +kernel
      go_wp2
      go_still_tail 13, (by kernel_rfl)
      still_call (band_energy.same k As cs (seg l0 6 12) e1 _ (Kd.C_below HRS.out (below_drew HB.out)) HCS.out q1.out)
      repeat still_step
      refine wpStill_nil ?_
      change wpList _ _ _ _ _ wr.drew
      have HO2 := Aside0.mk (Kd.R_drew HO.out)
      have HX2 : Aside0 (wr.drew.heap[bx]? = _) := ⟨HX.out⟩
      have HB2 := Aside0.mk (below_drew HB.out)
      clear HO HX HB ca cb hy hz hsl hwr HCS HRS
      generalize wr.drew = wd at HO2 HX2 HB2 ⊢
      obtain ⟨hy, hz⟩ := Kd.R_celln 0 HO2.out 1 (by decide) (by decide)
      simp only [Int.reduceToNat] at hy hz
      have HP := Kd.R_putg HO2.out (1 : Int) e1
      refine store_event (t := 90) (p := 34) (v := ?vo1) (w1 := wd.setCell ⟨go, Int.toNat 1, none⟩ (.int .u64 e1)) ?hg1 ?ho1 ?hn1 ?hr1 ?_
      (case ho1 => rfl); (case hg1 => rfl); (case hn1 => rfl); (case hr1 => first | (go_simp; done) | (go_simp; rfl))
      intro w5 hw
      have hg : wd.grownBy w5 (some go) := by rw [hw]; exact HP.2
      have HO3 : Aside0 (Kd.R (Kd.int .u64) 90 w5 w.heap.size (fun _ => True) (.slice (some ⟨go, 0, none⟩) 8 co) (enUpto [e0, e1, e2, e3, e4, e5, e6, e7] 2)) := ⟨by rw [hw]; exact HP.1⟩
      have HX3 : Aside0 (w5.heap[bx]? = _) := ⟨blk_grown HX2.out hg (Kd.R_ne HO2.out HX2.out (by decide))⟩
      have HB3 : Aside0 (Below w.heap.size w w5) := ⟨by rw [hw]; exact below_set HB2.out GB.out⟩
      clear HP hy hz HO2 HX2 HB2 hg hw
      go_wp2
      go_roundg 6
      case measure => omega
      case rel => exact ⟨2, by decide, by decide, (by first | rfl | (simp; done)), ⟨HO3.out⟩, ⟨HX3.out⟩, ⟨HB3.out⟩⟩
    · obtain ⟨As, cs, hsl, hcs, hCs⟩ := seg_cut HR0.out HC0.out 12 21 (by decide) (by decide) (by omega)
      have HCS := Aside0.mk hcs; have HRS := Aside0.mk hCs
      clear hcs hCs
      obtain rfl : gk = 5 + 1 := by omega
      clear hkb hb0
      have ca : wr.cell? ⟨bx, 2, none⟩ = some (.int .i64 12) := by simp [World.cell?, HX.out]
      have cb : wr.cell? ⟨bx, 3, none⟩ = some (.int .i64 21) := by simp [World.cell?, HX.out]
      obtain ⟨hy, hz⟩ := Kd.R_celln 0 HO.out 2 (by decide) (by decide)
      simp only [Int.reduceToNat] at hy hz
      have hwr : IntKind.i64.wrap 3 = 3 := by decide +kernel
      go_wp2
      go_still_tail 13, (by kernel_rfl)
      still_call (band_energy.same k As cs (seg l0 12 21) e2 _ (Kd.C_below HRS.out (below_drew HB.out)) HCS.out q2.out)
      repeat still_step
      refine wpStill_nil ?_
      change wpList _ _ _ _ _ wr.drew
      have HO2 := Aside0.mk (Kd.R_drew HO.out)
      have HX2 : Aside0 (wr.drew.heap[bx]? = _) := ⟨HX.out⟩
      have HB2 := Aside0.mk (below_drew HB.out)
      clear HO HX HB ca cb hy hz hsl hwr HCS HRS
      generalize wr.drew = wd at HO2 HX2 HB2 ⊢
      obtain ⟨hy, hz⟩ := Kd.R_celln 0 HO2.out 2 (by decide) (by decide)
      simp only [Int.reduceToNat] at hy hz
      have HP := Kd.R_putg HO2.out (2 : Int) e2
      refine store_event (t := 90) (p := 34) (v := ?vo2) (w1 := wd.setCell ⟨go, Int.toNat 2, none⟩ (.int .u64 e2)) ?hg2 ?ho2 ?hn2 ?hr2 ?_
      (case ho2 => rfl); (case hg2 => rfl); (case hn2 => rfl); (case hr2 => first | (go_simp; done) | (go_simp; rfl))
      intro w5 hw
      have hg : wd.grownBy w5 (some go) := by rw [hw]; exact HP.2
      have HO3 : Aside0 (Kd.R (Kd.int .u64) 90 w5 w.heap.size (fun _ => True) (.slice (some ⟨go, 0, none⟩) 8 co) (enUpto [e0, e1, e2, e3, e4, e5, e6, e7] 3)) := ⟨by rw [hw]; exact HP.1⟩
      have HX3 : Aside0 (w5.heap[bx]? = _) := ⟨blk_grown HX2.out hg (Kd.R_ne HO2.out HX2.out (by decide))⟩
      have HB3 : Aside0 (Below w.heap.size w w5) := ⟨by rw [hw]; exact below_set HB2.out GB.out⟩
      clear HP hy hz HO2 HX2 HB2 hg hw
      go_wp2
      go_roundg 5
      case measure => omega
      case rel => exact ⟨3, by decide, by decide, (by first | rfl | (simp; done)), ⟨HO3.out⟩, ⟨HX3.out⟩, ⟨HB3.out⟩⟩
    · obtain ⟨As, cs, hsl, hcs, hCs⟩ := seg_cut HR0.out HC0.out 21 33 (by decide) (by decide) (by omega)
      have HCS := Aside0.mk hcs; have HRS := Aside0.mk hCs
      clear hcs hCs
      obtain rfl : gk = 4 + 1 := by omega
      clear hkb hb0
      have ca : wr.cell? ⟨bx, 3, none⟩ = some (.int .i64 21) := by simp [World.cell?, HX.out]
      have cb : wr.cell? ⟨bx, 4, none⟩ = some (.int .i64 33) := by simp [World.cell?, HX.out]
      obtain ⟨hy, hz⟩ := Kd.R_celln 0 HO.out 3 (by decide) (by decide)
      simp only [Int.reduceToNat] at hy hz
      have hwr : IntKind.i64.wrap 4 = 4 := by decide +kernel
      go_wp2
      go_still_tail 13, (by kernel_rfl)
      still_call (band_energy.same k As cs (seg l0 21 33) e3 _ (Kd.C_below HRS.out (below_drew HB.out)) HCS.out q3.out)
      repeat still_step
      refine wpStill_nil ?_
      change wpList _ _ _ _ _ wr.drew
      have HO2 := Aside0.mk (Kd.R_drew HO.out)
      have HX2 : Aside0 (wr.drew.heap[bx]? = _) := ⟨HX.out⟩
      have HB2 := Aside0.mk (below_drew HB.out)
      clear HO HX HB ca cb hy hz hsl hwr HCS HRS
      generalize wr.drew = wd at HO2 HX2 HB2 ⊢
      obtain ⟨hy, hz⟩ := Kd.R_celln 0 HO2.out 3 (by decide) (by decide)
      simp only [Int.reduceToNat] at hy hz
      have HP := Kd.R_putg HO2.out (3 : Int) e3
      refine store_event (t := 90) (p := 34) (v := ?vo3) (w1 := wd.setCell ⟨go, Int.toNat 3, none⟩ (.int .u64 e3)) ?hg3 ?ho3 ?hn3 ?hr3 ?_
      (case ho3 => rfl); (case hg3 => rfl); (case hn3 => rfl); (case hr3 => first | (go_simp; done) | (go_simp; rfl))
      intro w5 hw
      have hg : wd.grownBy w5 (some go) := by rw [hw]; exact HP.2
      have HO3 : Aside0 (Kd.R (Kd.int .u64) 90 w5 w.heap.size (fun _ => True) (.slice (some ⟨go, 0, none⟩) 8 co) (enUpto [e0, e1, e2, e3, e4, e5, e6, e7] 4)) := ⟨by rw [hw]; exact HP.1⟩
      have HX3 : Aside0 (w5.heap[bx]? = _) := ⟨blk_grown HX2.out hg (Kd.R_ne HO2.out HX2.out (by decide))⟩
      have HB3 : Aside0 (Below w.heap.size w w5) := ⟨by rw [hw]; exact below_set HB2.out GB.out⟩
      clear HP hy hz HO2 HX2 HB2 hg hw
      go_wp2
      go_roundg 4
      case measure => omega
      case rel => exact ⟨4, by decide, by decide, (by first | rfl | (simp; done)), ⟨HO3.out⟩, ⟨HX3.out⟩, ⟨HB3.out⟩⟩
    · obtain ⟨As, cs, hsl, hcs, hCs⟩ := seg_cut HR0.out HC0.out 33 48 (by decide) (by decide) (by omega)
      have HCS := Aside0.mk hcs; have HRS := Aside0.mk hCs
      clear hcs hCs
      obtain rfl : gk = 3 + 1 := by omega
      clear hkb hb0
      have ca : wr.cell? ⟨bx, 4, none⟩ = some (.int .i64 33) := by simp [World.cell?, HX.out]
      have cb : wr.cell? ⟨bx, 5, none⟩ = some (.int .i64 48) := by simp [World.cell?, HX.out]
      obtain ⟨hy, hz⟩ := Kd.R_celln 0 HO.out 4 (by decide) (by decide)
      simp only [Int.reduceToNat] at hy hz
      have hwr : IntKind.i64.wrap 5 = 5 := by decide +kernel
      go_wp2
      go_still_tail 13, (by kernel_rfl)
      still_call (band_energy.same k As cs (seg l0 33 48) e4 _ (Kd.C_below HRS.out (below_drew HB.out)) HCS.out q4.out)
      repeat still_step
      refine wpStill_nil ?_
      change wpList _ _ _ _ _ wr.drew
      have HO2 := Aside0.mk (Kd.R_drew HO.out)
      have HX2 : Aside0 (wr.drew.heap[bx]? = _) := ⟨HX.out⟩
      have HB2 := Aside0.mk (below_drew HB.out)
      clear HO HX HB ca cb hy hz hsl hwr HCS HRS
      generalize wr.drew = wd at HO2 HX2 HB2 ⊢
      obtain ⟨hy, hz⟩ := Kd.R_celln 0 HO2.out 4 (by decide) (by decide)
      simp only [Int.reduceToNat] at hy hz
      have HP := Kd.R_putg HO2.out (4 : Int) e4
      refine store_event (t := 90) (p := 34) (v := ?vo4) (w1 := wd.setCell ⟨go, Int.toNat 4, none⟩ (.int .u64 e4)) ?hg4 ?ho4 ?hn4 ?hr4 ?_
      (case ho4 => rfl); (case hg4 => rfl); (case hn4 => rfl); (case hr4 => first | (go_simp; done) | (go_simp; rfl))
      intro w5 hw
      have hg : wd.grownBy w5 (some go) := by rw [hw]; exact HP.2
      have HO3 : Aside0 (Kd.R (Kd.int .u64) 90 w5 w.heap.size (fun _ => True) (.slice (some ⟨go, 0, none⟩) 8 co) (enUpto [e0, e1, e2, e3, e4, e5, e6, e7] 5)) := ⟨by rw [hw]; exact HP.1⟩
      have HX3 : Aside0 (w5.heap[bx]? = _) := ⟨blk_grown HX2.out hg (Kd.R_ne HO2.out HX2.out (by decide))⟩
      have HB3 : Aside0 (Below w.heap.size w w5) := ⟨by rw [hw]; exact below_set HB2.out GB.out⟩
      clear HP hy hz HO2 HX2 HB2 hg hw
      go_wp2
      go_roundg 3
      case measure => omega
      case rel => exact ⟨5, by decide, by decide, (by first | rfl | (simp; done)), ⟨HO3.out⟩, ⟨HX3.out⟩, ⟨HB3.out⟩⟩
    · obtain ⟨As, cs, hsl, hcs, hCs⟩ := seg_cut HR0.out HC0.out 48 69 (by decide) (by decide) (by omega)
      have HCS := Aside0.mk hcs; have HRS := Aside0.mk hCs
      clear hcs hCs
      obtain rfl : gk = 2 + 1 := by omega
      clear hkb hb0
      have ca : wr.cell? ⟨bx, 5, none⟩ = some (.int .i64 48) := by simp [World.cell?, HX.out]
      have cb : wr.cell? ⟨bx, 6, none⟩ = some (.int .i64 69) := by simp [World.cell?, HX.out]
      obtain ⟨hy, hz⟩ := Kd.R_celln 0 HO.out 5 (by decide) (by decide)
      simp only [Int.reduceToNat] at hy hz
      have hwr : IntKind.i64.wrap 6 = 6 := by decide +kernel
      go_wp2
      go_still_tail 13, (by kernel_rfl)
      still_call (band_energy.same k As cs (seg l0 48 69) e5 _ (Kd.C_below HRS.out (below_drew HB.out)) HCS.out q5.out)
      repeat still_step
      refine wpStill_nil ?_
      change wpList _ _ _ _ _ wr.drew
      have HO2 := Aside0.mk (Kd.R_drew HO.out)
      have HX2 : Aside0 (wr.drew.heap[bx]? = _) := ⟨HX.out⟩
      have HB2 := Aside0.mk (below_drew HB.out)
      clear HO HX HB ca cb hy hz hsl hwr HCS HRS
      generalize wr.drew = wd at HO2 HX2 HB2 ⊢
      obtain ⟨hy, hz⟩ := Kd.R_celln 0 HO2.out 5 (by decide) (by decide)
      simp only [Int.reduceToNat] at hy hz
      have HP := Kd.R_putg HO2.out (5 : Int) e5
      refine store_event (t := 90) (p := 34) (v := ?vo5) (w1 := wd.setCell ⟨go, Int.toNat 5, none⟩ (.int .u64 e5)) ?hg5 ?ho5 ?hn5 ?hr5 ?_
      (case ho5 => rfl); (case hg5 => rfl); (case hn5 => rfl); (case hr5 => first | (go_simp; done) | (go_simp; rfl))
      intro w5 hw
      have hg : wd.grownBy w5 (some go) := by rw [hw]; exact HP.2
      have HO3 : Aside0 (Kd.R (Kd.int .u64) 90 w5 w.heap.size (fun _ => True) (.slice (some ⟨go, 0, none⟩) 8 co) (enUpto [e0, e1, e2, e3, e4, e5, e6, e7] 6)) := ⟨by rw [hw]; exact HP.1⟩
      have HX3 : Aside0 (w5.heap[bx]? = _) := ⟨blk_grown HX2.out hg (Kd.R_ne HO2.out HX2.out (by decide))⟩
      have HB3 : Aside0 (Below w.heap.size w w5) := ⟨by rw [hw]; exact below_set HB2.out GB.out⟩
      clear HP hy hz HO2 HX2 HB2 hg hw
      go_wp2
      go_roundg 2
      case measure => omega
      case rel => exact ⟨6, by decide, by decide, (by first | rfl | (simp; done)), ⟨HO3.out⟩, ⟨HX3.out⟩, ⟨HB3.out⟩⟩
    · obtain ⟨As, cs, hsl, hcs, hCs⟩ := seg_cut HR0.out HC0.out 69 93 (by decide) (by decide) (by omega)
      have HCS := Aside0.mk hcs; have HRS := Aside0.mk hCs
      clear hcs hCs
      obtain rfl : gk = 1 + 1 := by omega
      clear hkb hb0
      have ca : wr.cell? ⟨bx, 6, none⟩ = some (.int .i64 69) := by simp [World.cell?, HX.out]
      have cb : wr.cell? ⟨bx, 7, none⟩ = some (.int .i64 93) := by simp [World.cell?, HX.out]
      obtain ⟨hy, hz⟩ := Kd.R_celln 0 HO.out 6 (by decide) (by decide)
      simp only [Int.reduceToNat] at hy hz
      have hwr : IntKind.i64.wrap 7 = 7 := by decide +kernel
      go_wp2
      go_still_tail 13, (by kernel_rfl)
      still_call (band_energy.same k As cs (seg l0 69 93) e6 _ (Kd.C_below HRS.out (below_drew HB.out)) HCS.out q6.out)
      repeat still_step
      refine wpStill_nil ?_
      change wpList _ _ _ _ _ wr.drew
      have HO2 := Aside0.mk (Kd.R_drew HO.out)
      have HX2 : Aside0 (wr.drew.heap[bx]? = _) := ⟨HX.out⟩
      have HB2 := Aside0.mk (below_drew HB.out)
      clear HO HX HB ca cb hy hz hsl hwr HCS HRS
      generalize wr.drew = wd at HO2 HX2 HB2 ⊢
      obtain ⟨hy, hz⟩ := Kd.R_celln 0 HO2.out 6 (by decide) (by decide)
      simp only [Int.reduceToNat] at hy hz
      have HP := Kd.R_putg HO2.out (6 : Int) e6
      refine store_event (t := 90) (p := 34) (v := ?vo6) (w1 := wd.setCell ⟨go, Int.toNat 6, none⟩ (.int .u64 e6)) ?hg6 ?ho6 ?hn6 ?hr6 ?_
      (case ho6 => rfl); (case hg6 => rfl); (case hn6 => rfl); (case hr6 => first | (go_simp; done) | (go_simp; rfl))
      intro w5 hw
      have hg : wd.grownBy w5 (some go) := by rw [hw]; exact HP.2
      have HO3 : Aside0 (Kd.R (Kd.int .u64) 90 w5 w.heap.size (fun _ => True) (.slice (some ⟨go, 0, none⟩) 8 co) (enUpto [e0, e1, e2, e3, e4, e5, e6, e7] 7)) := ⟨by rw [hw]; exact HP.1⟩
      have HX3 : Aside0 (w5.heap[bx]? = _) := ⟨blk_grown HX2.out hg (Kd.R_ne HO2.out HX2.out (by decide))⟩
      have HB3 : Aside0 (Below w.heap.size w w5) := ⟨by rw [hw]; exact below_set HB2.out GB.out⟩
      clear HP hy hz HO2 HX2 HB2 hg hw
      go_wp2
      go_roundg 1
      case measure => omega
      case rel => exact ⟨7, by decide, by decide, (by first | rfl | (simp; done)), ⟨HO3.out⟩, ⟨HX3.out⟩, ⟨HB3.out⟩⟩
    · obtain ⟨As, cs, hsl, hcs, hCs⟩ := seg_cut HR0.out HC0.out 93 120 (by decide) (by decide) (by omega)
      have HCS := Aside0.mk hcs; have HRS := Aside0.mk hCs
      clear hcs hCs
      obtain rfl : gk = 0 + 1 := by omega
      clear hkb hb0
      have ca : wr.cell? ⟨bx, 7, none⟩ = some (.int .i64 93) := by simp [World.cell?, HX.out]
      have cb : wr.cell? ⟨bx, 8, none⟩ = some (.int .i64 120) := by simp [World.cell?, HX.out]
      obtain ⟨hy, hz⟩ := Kd.R_celln 0 HO.out 7 (by decide) (by decide)
      simp only [Int.reduceToNat] at hy hz
      have hwr : IntKind.i64.wrap 8 = 8 := by decide +kernel
      go_wp2
      go_still_tail 13, (by kernel_rfl)
      still_call (band_energy.same k As cs (seg l0 93 120) e7 _ (Kd.C_below HRS.out (below_drew HB.out)) HCS.out q7.out)
      repeat still_step
      refine wpStill_nil ?_
      change wpList _ _ _ _ _ wr.drew
      have HO2 := Aside0.mk (Kd.R_drew HO.out)
      have HX2 : Aside0 (wr.drew.heap[bx]? = _) := ⟨HX.out⟩
      have HB2 := Aside0.mk (below_drew HB.out)
      clear HO HX HB ca cb hy hz hsl hwr HCS HRS
      generalize wr.drew = wd at HO2 HX2 HB2 ⊢
      obtain ⟨hy, hz⟩ := Kd.R_celln 0 HO2.out 7 (by decide) (by decide)
      simp only [Int.reduceToNat] at hy hz
      have HP := Kd.R_putg HO2.out (7 : Int) e7
      refine store_event (t := 90) (p := 34) (v := ?vo7) (w1 := wd.setCell ⟨go, Int.toNat 7, none⟩ (.int .u64 e7)) ?hg7 ?ho7 ?hn7 ?hr7 ?_
      (case ho7 => rfl); (case hg7 => rfl); (case hn7 => rfl); (case hr7 => first | (go_simp; done) | (go_simp; rfl))
      intro w5 hw
      have hg : wd.grownBy w5 (some go) := by rw [hw]; exact HP.2
      have HO3 : Aside0 (Kd.R (Kd.int .u64) 90 w5 w.heap.size (fun _ => True) (.slice (some ⟨go, 0, none⟩) 8 co) (enUpto [e0, e1, e2, e3, e4, e5, e6, e7] 8)) := ⟨by rw [hw]; exact HP.1⟩
      have HX3 : Aside0 (w5.heap[bx]? = _) := ⟨blk_grown HX2.out hg (Kd.R_ne HO2.out HX2.out (by decide))⟩
      have HB3 : Aside0 (Below w.heap.size w w5) := ⟨by rw [hw]; exact below_set HB2.out GB.out⟩
      clear HP hy hz HO2 HX2 HB2 hg hw
      go_wp2
      go_roundg 0
      case measure => omega
      case rel => exact ⟨8, by decide, by decide, (by first | rfl | (simp; done)), ⟨HO3.out⟩, ⟨HX3.out⟩, ⟨HB3.out⟩⟩
    · clear hkb hb0
      go_wp2
      go_ret2
      exact ⟨_, rfl, HO.out, HB.out⟩
theorem band_Energies.calls (k : Nat) (A0 : Option Addr) (c0 : Nat) (l0 : List Int) (r1 : List Int) (r2 : Int) (w : World) (hr0 : Kd.C (Kd.int .i32) w A0 l0.length l0) (hc0 : l0.length ≤ c0) (h : band_Energies.f k l0 = some (r1, r2)) :
    Calls Try.prog 88 #[.slice A0 l0.length c0] w fun e w' => ∃ v0_ : Value, e = .returned (.tuple #[v0_, .int .i64 r2]) ∧ Kd.R (Kd.int .u64) 90 w' w.heap.size (fun _ => True) v0_ r1 ∧ Below w.heap.size w w' := by
  unfold band_Energies.f at h
  rcases edges_cases (l0.length : Int) with hn | hn | hn | hn | ⟨hn, he⟩
  · rw [hn, if_neg (by decide)] at h
    obtain ⟨r, hr, h2⟩ := Option.bind_eq_some_iff.mp h
    simp only [Option.some.injEq, Prod.mk.injEq] at h2
    obtain ⟨rfl, rfl⟩ := h2
    obtain ⟨e0, e1, e2, e3, e4, e5, e6, e7, rfl, q0, q1, q2, q3, q4, q5, q6, q7⟩ := enAll_some hr
    exact band_Energies.calls40 k A0 c0 l0 e0 e1 e2 e3 e4 e5 e6 e7 w hr0 hc0 (by omega) ⟨q0⟩ ⟨q1⟩ ⟨q2⟩ ⟨q3⟩ ⟨q4⟩ ⟨q5⟩ ⟨q6⟩ ⟨q7⟩
  · rw [hn, if_neg (by decide)] at h
    obtain ⟨r, hr, h2⟩ := Option.bind_eq_some_iff.mp h
    simp only [Option.some.injEq, Prod.mk.injEq] at h2
    obtain ⟨rfl, rfl⟩ := h2
    obtain ⟨e0, e1, e2, e3, e4, e5, e6, e7, rfl, q0, q1, q2, q3, q4, q5, q6, q7⟩ := enAll_some hr
    exact band_Energies.calls60 k A0 c0 l0 e0 e1 e2 e3 e4 e5 e6 e7 w hr0 hc0 (by omega) ⟨q0⟩ ⟨q1⟩ ⟨q2⟩ ⟨q3⟩ ⟨q4⟩ ⟨q5⟩ ⟨q6⟩ ⟨q7⟩
  · rw [hn, if_neg (by decide)] at h
    obtain ⟨r, hr, h2⟩ := Option.bind_eq_some_iff.mp h
    simp only [Option.some.injEq, Prod.mk.injEq] at h2
    obtain ⟨rfl, rfl⟩ := h2
    obtain ⟨e0, e1, e2, e3, e4, e5, e6, e7, rfl, q0, q1, q2, q3, q4, q5, q6, q7⟩ := enAll_some hr
    exact band_Energies.calls80 k A0 c0 l0 e0 e1 e2 e3 e4 e5 e6 e7 w hr0 hc0 (by omega) ⟨q0⟩ ⟨q1⟩ ⟨q2⟩ ⟨q3⟩ ⟨q4⟩ ⟨q5⟩ ⟨q6⟩ ⟨q7⟩
  · rw [hn, if_neg (by decide)] at h
    obtain ⟨r, hr, h2⟩ := Option.bind_eq_some_iff.mp h
    simp only [Option.some.injEq, Prod.mk.injEq] at h2
    obtain ⟨rfl, rfl⟩ := h2
    obtain ⟨e0, e1, e2, e3, e4, e5, e6, e7, rfl, q0, q1, q2, q3, q4, q5, q6, q7⟩ := enAll_some hr
    exact band_Energies.calls120 k A0 c0 l0 e0 e1 e2 e3 e4 e5 e6 e7 w hr0 hc0 (by omega) ⟨q0⟩ ⟨q1⟩ ⟨q2⟩ ⟨q3⟩ ⟨q4⟩ ⟨q5⟩ ⟨q6⟩ ⟨q7⟩
  · rw [if_pos he] at h; simp at h; obtain ⟨rfl, rfl⟩ := h
    clear he hr0 hc0
    go_enter Try.func88, Try.ntmps88
    go_wp2_with (first | (go_at_call 105; refine (band_edges.callsNo _ hn _).mono ?_; rintro e w1 ⟨rfl, hb⟩))
    go_ret2
    exact ⟨_, rfl, Kd.R_nil _ _ _ _ _, below_alloc (by assumption) _⟩

/-! ### bits_Len64: function 107 -/
def bits_Len64.j0 : Nat → Int → Int → Option (Int)
  | 0, _, _ => none
  | k + 1, x0, x2 => if x0 ≥ 65536 then (if (x0 / 65536) ≥ 256 then (if 0 ≤ (((x0 / 65536) / 256) % 256) then (if (((x0 / 65536) / 256) % 256) < 256 then (some (wrap64 ((wrap64 ((wrap64 (x2 + 16)) + 8)) + (wrap64 (bt (⟨#[0, 1, 2, 2, 3, 3, 3, 3, 4, 4, 4, 4, 4, 4, 4, 4, 5, 5, 5, 5, 5, 5, 5, 5, 5, 5, 5, 5, 5, 5, 5, 5, 6, 6, 6, 6, 6, 6, 6, 6, 6, 6, 6, 6, 6, 6, 6, 6, 6, 6, 6, 6, 6, 6, 6, 6, 6, 6, 6, 6, 6, 6, 6, 6, 7, 7, 7, 7, 7, 7, 7, 7, 7, 7, 7, 7, 7, 7, 7, 7, 7, 7, 7, 7, 7, 7, 7, 7, 7, 7, 7, 7, 7, 7, 7, 7, 7, 7, 7, 7, 7, 7, 7, 7, 7, 7, 7, 7, 7, 7, 7, 7, 7, 7, 7, 7, 7, 7, 7, 7, 7, 7, 7, 7, 7, 7, 7, 7, 8, 8, 8, 8, 8, 8, 8, 8, 8, 8, 8, 8, 8, 8, 8, 8, 8, 8, 8, 8, 8, 8, 8, 8, 8, 8, 8, 8, 8, 8, 8, 8, 8, 8, 8, 8, 8, 8, 8, 8, 8, 8, 8, 8, 8, 8, 8, 8, 8, 8, 8, 8, 8, 8, 8, 8, 8, 8, 8, 8, 8, 8, 8, 8, 8, 8, 8, 8, 8, 8, 8, 8, 8, 8, 8, 8, 8, 8, 8, 8, 8, 8, 8, 8, 8, 8, 8, 8, 8, 8, 8, 8, 8, 8, 8, 8, 8, 8, 8, 8, 8, 8, 8, 8, 8, 8, 8, 8, 8, 8, 8, 8, 8, 8, 8, 8, 8, 8, 8, 8, 8, 8, 8, 8, 8, 8, 8, 8]⟩ : ByteArray) (((x0 / 65536) / 256) % 256)))))) else (none)) else (none)) else (if 0 ≤ ((x0 / 65536) % 256) then (if ((x0 / 65536) % 256) < 256 then (some (wrap64 ((wrap64 (x2 + 16)) + (wrap64 (bt (⟨#[0, 1, 2, 2, 3, 3, 3, 3, 4, 4, 4, 4, 4, 4, 4, 4, 5, 5, 5, 5, 5, 5, 5, 5, 5, 5, 5, 5, 5, 5, 5, 5, 6, 6, 6, 6, 6, 6, 6, 6, 6, 6, 6, 6, 6, 6, 6, 6, 6, 6, 6, 6, 6, 6, 6, 6, 6, 6, 6, 6, 6, 6, 6, 6, 7, 7, 7, 7, 7, 7, 7, 7, 7, 7, 7, 7, 7, 7, 7, 7, 7, 7, 7, 7, 7, 7, 7, 7, 7, 7, 7, 7, 7, 7, 7, 7, 7, 7, 7, 7, 7, 7, 7, 7, 7, 7, 7, 7, 7, 7, 7, 7, 7, 7, 7, 7, 7, 7, 7, 7, 7, 7, 7, 7, 7, 7, 7, 7, 8, 8, 8, 8, 8, 8, 8, 8, 8, 8, 8, 8, 8, 8, 8, 8, 8, 8, 8, 8, 8, 8, 8, 8, 8, 8, 8, 8, 8, 8, 8, 8, 8, 8, 8, 8, 8, 8, 8, 8, 8, 8, 8, 8, 8, 8, 8, 8, 8, 8, 8, 8, 8, 8, 8, 8, 8, 8, 8, 8, 8, 8, 8, 8, 8, 8, 8, 8, 8, 8, 8, 8, 8, 8, 8, 8, 8, 8, 8, 8, 8, 8, 8, 8, 8, 8, 8, 8, 8, 8, 8, 8, 8, 8, 8, 8, 8, 8, 8, 8, 8, 8, 8, 8, 8, 8, 8, 8, 8, 8, 8, 8, 8, 8, 8, 8, 8, 8, 8, 8, 8, 8, 8, 8, 8, 8, 8, 8]⟩ : ByteArray) ((x0 / 65536) % 256)))))) else (none)) else (none))) else (if x0 ≥ 256 then (if 0 ≤ ((x0 / 256) % 256) then (if ((x0 / 256) % 256) < 256 then (some (wrap64 ((wrap64 (x2 + 8)) + (wrap64 (bt (⟨#[0, 1, 2, 2, 3, 3, 3, 3, 4, 4, 4, 4, 4, 4, 4, 4, 5, 5, 5, 5, 5, 5, 5, 5, 5, 5, 5, 5, 5, 5, 5, 5, 6, 6, 6, 6, 6, 6, 6, 6, 6, 6, 6, 6, 6, 6, 6, 6, 6, 6, 6, 6, 6, 6, 6, 6, 6, 6, 6, 6, 6, 6, 6, 6, 7, 7, 7, 7, 7, 7, 7, 7, 7, 7, 7, 7, 7, 7, 7, 7, 7, 7, 7, 7, 7, 7, 7, 7, 7, 7, 7, 7, 7, 7, 7, 7, 7, 7, 7, 7, 7, 7, 7, 7, 7, 7, 7, 7, 7, 7, 7, 7, 7, 7, 7, 7, 7, 7, 7, 7, 7, 7, 7, 7, 7, 7, 7, 7, 8, 8, 8, 8, 8, 8, 8, 8, 8, 8, 8, 8, 8, 8, 8, 8, 8, 8, 8, 8, 8, 8, 8, 8, 8, 8, 8, 8, 8, 8, 8, 8, 8, 8, 8, 8, 8, 8, 8, 8, 8, 8, 8, 8, 8, 8, 8, 8, 8, 8, 8, 8, 8, 8, 8, 8, 8, 8, 8, 8, 8, 8, 8, 8, 8, 8, 8, 8, 8, 8, 8, 8, 8, 8, 8, 8, 8, 8, 8, 8, 8, 8, 8, 8, 8, 8, 8, 8, 8, 8, 8, 8, 8, 8, 8, 8, 8, 8, 8, 8, 8, 8, 8, 8, 8, 8, 8, 8, 8, 8, 8, 8, 8, 8, 8, 8, 8, 8, 8, 8, 8, 8, 8, 8, 8, 8, 8, 8]⟩ : ByteArray) ((x0 / 256) % 256)))))) else (none)) else (none)) else (if 0 ≤ ((x0) % 256) then (if ((x0) % 256) < 256 then (some (wrap64 (x2 + (wrap64 (bt (⟨#[0, 1, 2, 2, 3, 3, 3, 3, 4, 4, 4, 4, 4, 4, 4, 4, 5, 5, 5, 5, 5, 5, 5, 5, 5, 5, 5, 5, 5, 5, 5, 5, 6, 6, 6, 6, 6, 6, 6, 6, 6, 6, 6, 6, 6, 6, 6, 6, 6, 6, 6, 6, 6, 6, 6, 6, 6, 6, 6, 6, 6, 6, 6, 6, 7, 7, 7, 7, 7, 7, 7, 7, 7, 7, 7, 7, 7, 7, 7, 7, 7, 7, 7, 7, 7, 7, 7, 7, 7, 7, 7, 7, 7, 7, 7, 7, 7, 7, 7, 7, 7, 7, 7, 7, 7, 7, 7, 7, 7, 7, 7, 7, 7, 7, 7, 7, 7, 7, 7, 7, 7, 7, 7, 7, 7, 7, 7, 7, 8, 8, 8, 8, 8, 8, 8, 8, 8, 8, 8, 8, 8, 8, 8, 8, 8, 8, 8, 8, 8, 8, 8, 8, 8, 8, 8, 8, 8, 8, 8, 8, 8, 8, 8, 8, 8, 8, 8, 8, 8, 8, 8, 8, 8, 8, 8, 8, 8, 8, 8, 8, 8, 8, 8, 8, 8, 8, 8, 8, 8, 8, 8, 8, 8, 8, 8, 8, 8, 8, 8, 8, 8, 8, 8, 8, 8, 8, 8, 8, 8, 8, 8, 8, 8, 8, 8, 8, 8, 8, 8, 8, 8, 8, 8, 8, 8, 8, 8, 8, 8, 8, 8, 8, 8, 8, 8, 8, 8, 8, 8, 8, 8, 8, 8, 8, 8, 8, 8, 8, 8, 8, 8, 8, 8, 8, 8, 8]⟩ : ByteArray) ((x0) % 256)))))) else (none)) else (none)))
def bits_Len64.f (k : Nat) (a0 : Int) : Option (Int) := if a0 ≥ 4294967296 then (bits_Len64.j0 k (a0 / 4294967296) 32) else (bits_Len64.j0 k a0 0)
theorem bits_Len64.mono_l : ∀ k, (∀ y0 y1, LeO (bits_Len64.j0 k y0 y1) (bits_Len64.j0 (k + 1) y0 y1))
  | 0 => fun _ _ r h => by simp [bits_Len64.j0] at h
  | k + 1 => by
    have ih0 := bits_Len64.mono_l k
    · intro y0 y1
      unfold bits_Len64.j0
      repeat' first
      | (with_reducible exact ih0 _ _)
      | (with_reducible exact LeO.refl _)
      | (with_reducible exact LeO.none _)
      | (with_reducible refine LeO.ite ?_ ?_)
      | (with_reducible refine LeO.bind ?_ (fun _ => ?_))
      | exact ih0 _ _
      | exact LeO.none _
      | refine LeO.ite ?_ ?_
      | refine LeO.bind ?_ (fun _ => ?_)
theorem bits_Len64.mono : ∀ a0 k, LeO (bits_Len64.f k a0) (bits_Len64.f (k + 1) a0) := by
  intro a0 k
  have ih0 := bits_Len64.mono_l k
  unfold bits_Len64.f
  repeat' first
      | (with_reducible exact ih0 _ _)
      | (with_reducible exact LeO.refl _)
      | (with_reducible exact LeO.none _)
      | (with_reducible refine LeO.ite ?_ ?_)
      | (with_reducible refine LeO.bind ?_ (fun _ => ?_))
      | exact ih0 _ _
      | exact LeO.none _
      | refine LeO.ite ?_ ?_
      | refine LeO.bind ?_ (fun _ => ?_)
set_option maxHeartbeats 8000000 in
set_option maxRecDepth 100000 in
theorem bits_Len64.calls (k : Nat) (a0 : Int) (r : Int) (w : World) (h : bits_Len64.f k a0 = some r) :
    Calls Try.prog 107 #[.int .u64 a0] w fun e w' => e = .returned (.int .i64 r) ∧ Drawn0 w w' := by
  have H : (if a0 ≥ 4294967296 then (bits_Len64.j0 k (a0 / 4294967296) 32) else (bits_Len64.j0 k a0 0)) = some r := h
  clear h
  have HC2 := Aside0.mk H
  clear H
  go_enter Try.func107, Try.ntmps107
  go_upto_if 4 with (fail)
  go_cut [0, 2] (fun v0 v2 wc => ∃ (kq : Nat) (x0_1 : Int) (x2_1 : Int), v0 = .int .u64 x0_1 ∧ v2 = .int .i64 x2_1 ∧ Aside0 (bits_Len64.j0 kq x0_1 x2_1 = some r) ∧ Aside0 (kq ≤ k) ∧ Drawn0 w wc)
  case first =>
    have H := HC2.out
    clear HC2
    by_cases c3 : a0 ≥ 4294967296
    · rw [if_pos c3] at H
      have c3b0 : decide (4294967296 ≤ a0) = true := decide_eq_true c3
      clear c3
      (first | rw [c3b0] | (simp only [i64_w, i32_w]; rw [c3b0]) | skip)
      have H' := Aside0.mk H
      clear H
      go_wp2
      go_meet
      case rel => exact ⟨_, (a0 / 4294967296), (32), (by first | rfl | (simp; done) | (simp [*]; done)), (by first | rfl | (simp; done) | (simp [*]; done)), H', ⟨by first | omega | exact Nat.le_refl _⟩, by repeat (first | exact Drawn0.refl _ | apply Drawn0.step)⟩
    · rw [if_neg c3] at H
      have c3b0 : decide (4294967296 ≤ a0) = false := decide_eq_false c3
      clear c3
      (first | rw [c3b0] | (simp only [i64_w, i32_w]; rw [c3b0]) | skip)
      have H' := Aside0.mk H
      clear H
      go_wp2
      go_meet
      case rel => exact ⟨_, (a0), (0), (by first | rfl | (simp; done) | (simp [*]; done)), (by first | rfl | (simp; done) | (simp [*]; done)), H', ⟨by first | omega | exact Nat.le_refl _⟩, by repeat (first | exact Drawn0.refl _ | apply Drawn0.step)⟩
  case rest =>
    clear HC2
    try clear c1
    try clear p2
    try clear c3
    try clear c3b0
    obtain ⟨kq, x0_1, x2_1, rfl, rfl, HA, HJ1, ⟨mc1, rfl⟩⟩ := hcut
    cases kq with
    | zero => exact absurd HA.out (by simp [bits_Len64.j0])
    | succ kj1 =>
      have H := HA.out
      clear HA
      simp only [bits_Len64.j0] at H
      by_cases c4 : x0_1 ≥ 65536
      · rw [if_pos c4] at H
        have c4b0 : decide (65536 ≤ x0_1) = true := decide_eq_true c4
        clear c4
        by_cases c5 : (x0_1 / 65536) ≥ 256
        · rw [if_pos c5] at H
          have c5b0 : decide (256 ≤ (x0_1 / 65536)) = true := decide_eq_true c5
          clear c5
          obtain ⟨ji6, hji6⟩ : ∃ j_ : Int, (((x0_1 / 65536) / 256) % 256) = j_ := ⟨_, rfl⟩
          replace H : (if 0 ≤ (ji6) then (if (ji6) < 256 then (some (wrap64 ((wrap64 ((wrap64 (x2_1 + 16)) + 8)) + (wrap64 (bt (⟨#[0, 1, 2, 2, 3, 3, 3, 3, 4, 4, 4, 4, 4, 4, 4, 4, 5, 5, 5, 5, 5, 5, 5, 5, 5, 5, 5, 5, 5, 5, 5, 5, 6, 6, 6, 6, 6, 6, 6, 6, 6, 6, 6, 6, 6, 6, 6, 6, 6, 6, 6, 6, 6, 6, 6, 6, 6, 6, 6, 6, 6, 6, 6, 6, 7, 7, 7, 7, 7, 7, 7, 7, 7, 7, 7, 7, 7, 7, 7, 7, 7, 7, 7, 7, 7, 7, 7, 7, 7, 7, 7, 7, 7, 7, 7, 7, 7, 7, 7, 7, 7, 7, 7, 7, 7, 7, 7, 7, 7, 7, 7, 7, 7, 7, 7, 7, 7, 7, 7, 7, 7, 7, 7, 7, 7, 7, 7, 7, 8, 8, 8, 8, 8, 8, 8, 8, 8, 8, 8, 8, 8, 8, 8, 8, 8, 8, 8, 8, 8, 8, 8, 8, 8, 8, 8, 8, 8, 8, 8, 8, 8, 8, 8, 8, 8, 8, 8, 8, 8, 8, 8, 8, 8, 8, 8, 8, 8, 8, 8, 8, 8, 8, 8, 8, 8, 8, 8, 8, 8, 8, 8, 8, 8, 8, 8, 8, 8, 8, 8, 8, 8, 8, 8, 8, 8, 8, 8, 8, 8, 8, 8, 8, 8, 8, 8, 8, 8, 8, 8, 8, 8, 8, 8, 8, 8, 8, 8, 8, 8, 8, 8, 8, 8, 8, 8, 8, 8, 8, 8, 8, 8, 8, 8, 8, 8, 8, 8, 8, 8, 8, 8, 8, 8, 8, 8, 8]⟩ : ByteArray) (ji6)))))) else (none)) else (none)) = some r := by first | (rw [hji6] at H; exact H) | (simp only [hji6] at H ⊢; exact H)
          by_cases c7 : 0 ≤ (ji6)
          · rw [if_pos c7] at H
            have c7b0 : decide (0 ≤ (ji6)) = true := decide_eq_true c7
            clear c7
            by_cases c8 : (ji6) < 256
            · rw [if_pos c8] at H
              have c8b0 : decide ((ji6) < 256) = true := decide_eq_true c8
              clear c8
              obtain rfl := Option.some.inj H
              have p9 : 0 ≤ ((ji6) : Int) := of_decide_eq_true (by first | (with_reducible assumption) | assumption)
              have q9 : (ji6) < (256 : Int) := of_decide_eq_true (by first | (with_reducible assumption) | assumption)
              have hx9 := bt_at (⟨#[0, 1, 2, 2, 3, 3, 3, 3, 4, 4, 4, 4, 4, 4, 4, 4, 5, 5, 5, 5, 5, 5, 5, 5, 5, 5, 5, 5, 5, 5, 5, 5, 6, 6, 6, 6, 6, 6, 6, 6, 6, 6, 6, 6, 6, 6, 6, 6, 6, 6, 6, 6, 6, 6, 6, 6, 6, 6, 6, 6, 6, 6, 6, 6, 7, 7, 7, 7, 7, 7, 7, 7, 7, 7, 7, 7, 7, 7, 7, 7, 7, 7, 7, 7, 7, 7, 7, 7, 7, 7, 7, 7, 7, 7, 7, 7, 7, 7, 7, 7, 7, 7, 7, 7, 7, 7, 7, 7, 7, 7, 7, 7, 7, 7, 7, 7, 7, 7, 7, 7, 7, 7, 7, 7, 7, 7, 7, 7, 8, 8, 8, 8, 8, 8, 8, 8, 8, 8, 8, 8, 8, 8, 8, 8, 8, 8, 8, 8, 8, 8, 8, 8, 8, 8, 8, 8, 8, 8, 8, 8, 8, 8, 8, 8, 8, 8, 8, 8, 8, 8, 8, 8, 8, 8, 8, 8, 8, 8, 8, 8, 8, 8, 8, 8, 8, 8, 8, 8, 8, 8, 8, 8, 8, 8, 8, 8, 8, 8, 8, 8, 8, 8, 8, 8, 8, 8, 8, 8, 8, 8, 8, 8, 8, 8, 8, 8, 8, 8, 8, 8, 8, 8, 8, 8, 8, 8, 8, 8, 8, 8, 8, 8, 8, 8, 8, 8, 8, 8, 8, 8, 8, 8, 8, 8, 8, 8, 8, 8, 8, 8, 8, 8, 8, 8, 8, 8]⟩ : ByteArray) (ji6)
              replace p9 := eq_true p9
              replace q9 := eq_true q9
              go_wp2
              go_ret
              exact ⟨by first | rfl | (simp; done) | (simp only [← hji6] <;> (first | rfl | simp)) | (simp [*]; done), by repeat (first | exact Drawn0.refl _ | apply Drawn0.step)⟩
            · rw [if_neg c8] at H
              exact absurd H (by simp)
          · rw [if_neg c7] at H
            exact absurd H (by simp)
        · rw [if_neg c5] at H
          have c5b0 : decide (256 ≤ (x0_1 / 65536)) = false := decide_eq_false c5
          clear c5
          obtain ⟨ji10, hji10⟩ : ∃ j_ : Int, ((x0_1 / 65536) % 256) = j_ := ⟨_, rfl⟩
          replace H : (if 0 ≤ (ji10) then (if (ji10) < 256 then (some (wrap64 ((wrap64 (x2_1 + 16)) + (wrap64 (bt (⟨#[0, 1, 2, 2, 3, 3, 3, 3, 4, 4, 4, 4, 4, 4, 4, 4, 5, 5, 5, 5, 5, 5, 5, 5, 5, 5, 5, 5, 5, 5, 5, 5, 6, 6, 6, 6, 6, 6, 6, 6, 6, 6, 6, 6, 6, 6, 6, 6, 6, 6, 6, 6, 6, 6, 6, 6, 6, 6, 6, 6, 6, 6, 6, 6, 7, 7, 7, 7, 7, 7, 7, 7, 7, 7, 7, 7, 7, 7, 7, 7, 7, 7, 7, 7, 7, 7, 7, 7, 7, 7, 7, 7, 7, 7, 7, 7, 7, 7, 7, 7, 7, 7, 7, 7, 7, 7, 7, 7, 7, 7, 7, 7, 7, 7, 7, 7, 7, 7, 7, 7, 7, 7, 7, 7, 7, 7, 7, 7, 8, 8, 8, 8, 8, 8, 8, 8, 8, 8, 8, 8, 8, 8, 8, 8, 8, 8, 8, 8, 8, 8, 8, 8, 8, 8, 8, 8, 8, 8, 8, 8, 8, 8, 8, 8, 8, 8, 8, 8, 8, 8, 8, 8, 8, 8, 8, 8, 8, 8, 8, 8, 8, 8, 8, 8, 8, 8, 8, 8, 8, 8, 8, 8, 8, 8, 8, 8, 8, 8, 8, 8, 8, 8, 8, 8, 8, 8, 8, 8, 8, 8, 8, 8, 8, 8, 8, 8, 8, 8, 8, 8, 8, 8, 8, 8, 8, 8, 8, 8, 8, 8, 8, 8, 8, 8, 8, 8, 8, 8, 8, 8, 8, 8, 8, 8, 8, 8, 8, 8, 8, 8, 8, 8, 8, 8, 8, 8]⟩ : ByteArray) (ji10)))))) else (none)) else (none)) = some r := by first | (rw [hji10] at H; exact H) | (simp only [hji10] at H ⊢; exact H)
          by_cases c11 : 0 ≤ (ji10)
          · rw [if_pos c11] at H
            have c11b0 : decide (0 ≤ (ji10)) = true := decide_eq_true c11
            clear c11
            by_cases c12 : (ji10) < 256
            · rw [if_pos c12] at H
              have c12b0 : decide ((ji10) < 256) = true := decide_eq_true c12
              clear c12
              obtain rfl := Option.some.inj H
              have p13 : 0 ≤ ((ji10) : Int) := of_decide_eq_true (by first | (with_reducible assumption) | assumption)
              have q13 : (ji10) < (256 : Int) := of_decide_eq_true (by first | (with_reducible assumption) | assumption)
              have hx13 := bt_at (⟨#[0, 1, 2, 2, 3, 3, 3, 3, 4, 4, 4, 4, 4, 4, 4, 4, 5, 5, 5, 5, 5, 5, 5, 5, 5, 5, 5, 5, 5, 5, 5, 5, 6, 6, 6, 6, 6, 6, 6, 6, 6, 6, 6, 6, 6, 6, 6, 6, 6, 6, 6, 6, 6, 6, 6, 6, 6, 6, 6, 6, 6, 6, 6, 6, 7, 7, 7, 7, 7, 7, 7, 7, 7, 7, 7, 7, 7, 7, 7, 7, 7, 7, 7, 7, 7, 7, 7, 7, 7, 7, 7, 7, 7, 7, 7, 7, 7, 7, 7, 7, 7, 7, 7, 7, 7, 7, 7, 7, 7, 7, 7, 7, 7, 7, 7, 7, 7, 7, 7, 7, 7, 7, 7, 7, 7, 7, 7, 7, 8, 8, 8, 8, 8, 8, 8, 8, 8, 8, 8, 8, 8, 8, 8, 8, 8, 8, 8, 8, 8, 8, 8, 8, 8, 8, 8, 8, 8, 8, 8, 8, 8, 8, 8, 8, 8, 8, 8, 8, 8, 8, 8, 8, 8, 8, 8, 8, 8, 8, 8, 8, 8, 8, 8, 8, 8, 8, 8, 8, 8, 8, 8, 8, 8, 8, 8, 8, 8, 8, 8, 8, 8, 8, 8, 8, 8, 8, 8, 8, 8, 8, 8, 8, 8, 8, 8, 8, 8, 8, 8, 8, 8, 8, 8, 8, 8, 8, 8, 8, 8, 8, 8, 8, 8, 8, 8, 8, 8, 8, 8, 8, 8, 8, 8, 8, 8, 8, 8, 8, 8, 8, 8, 8, 8, 8, 8, 8]⟩ : ByteArray) (ji10)
              replace p13 := eq_true p13
              replace q13 := eq_true q13
              go_wp2
              go_ret
              exact ⟨by first | rfl | (simp; done) | (simp only [← hji10] <;> (first | rfl | simp)) | (simp [*]; done), by repeat (first | exact Drawn0.refl _ | apply Drawn0.step)⟩
            · rw [if_neg c12] at H
              exact absurd H (by simp)
          · rw [if_neg c11] at H
            exact absurd H (by simp)
      · rw [if_neg c4] at H
        have c4b0 : decide (65536 ≤ x0_1) = false := decide_eq_false c4
        clear c4
        by_cases c14 : x0_1 ≥ 256
        · rw [if_pos c14] at H
          have c14b0 : decide (256 ≤ x0_1) = true := decide_eq_true c14
          clear c14
          obtain ⟨ji15, hji15⟩ : ∃ j_ : Int, ((x0_1 / 256) % 256) = j_ := ⟨_, rfl⟩
          replace H : (if 0 ≤ (ji15) then (if (ji15) < 256 then (some (wrap64 ((wrap64 (x2_1 + 8)) + (wrap64 (bt (⟨#[0, 1, 2, 2, 3, 3, 3, 3, 4, 4, 4, 4, 4, 4, 4, 4, 5, 5, 5, 5, 5, 5, 5, 5, 5, 5, 5, 5, 5, 5, 5, 5, 6, 6, 6, 6, 6, 6, 6, 6, 6, 6, 6, 6, 6, 6, 6, 6, 6, 6, 6, 6, 6, 6, 6, 6, 6, 6, 6, 6, 6, 6, 6, 6, 7, 7, 7, 7, 7, 7, 7, 7, 7, 7, 7, 7, 7, 7, 7, 7, 7, 7, 7, 7, 7, 7, 7, 7, 7, 7, 7, 7, 7, 7, 7, 7, 7, 7, 7, 7, 7, 7, 7, 7, 7, 7, 7, 7, 7, 7, 7, 7, 7, 7, 7, 7, 7, 7, 7, 7, 7, 7, 7, 7, 7, 7, 7, 7, 8, 8, 8, 8, 8, 8, 8, 8, 8, 8, 8, 8, 8, 8, 8, 8, 8, 8, 8, 8, 8, 8, 8, 8, 8, 8, 8, 8, 8, 8, 8, 8, 8, 8, 8, 8, 8, 8, 8, 8, 8, 8, 8, 8, 8, 8, 8, 8, 8, 8, 8, 8, 8, 8, 8, 8, 8, 8, 8, 8, 8, 8, 8, 8, 8, 8, 8, 8, 8, 8, 8, 8, 8, 8, 8, 8, 8, 8, 8, 8, 8, 8, 8, 8, 8, 8, 8, 8, 8, 8, 8, 8, 8, 8, 8, 8, 8, 8, 8, 8, 8, 8, 8, 8, 8, 8, 8, 8, 8, 8, 8, 8, 8, 8, 8, 8, 8, 8, 8, 8, 8, 8, 8, 8, 8, 8, 8, 8]⟩ : ByteArray) (ji15)))))) else (none)) else (none)) = some r := by first | (rw [hji15] at H; exact H) | (simp only [hji15] at H ⊢; exact H)
          by_cases c16 : 0 ≤ (ji15)
          · rw [if_pos c16] at H
            have c16b0 : decide (0 ≤ (ji15)) = true := decide_eq_true c16
            clear c16
            by_cases c17 : (ji15) < 256
            · rw [if_pos c17] at H
              have c17b0 : decide ((ji15) < 256) = true := decide_eq_true c17
              clear c17
              obtain rfl := Option.some.inj H
              have p18 : 0 ≤ ((ji15) : Int) := of_decide_eq_true (by first | (with_reducible assumption) | assumption)
              have q18 : (ji15) < (256 : Int) := of_decide_eq_true (by first | (with_reducible assumption) | assumption)
              have hx18 := bt_at (⟨#[0, 1, 2, 2, 3, 3, 3, 3, 4, 4, 4, 4, 4, 4, 4, 4, 5, 5, 5, 5, 5, 5, 5, 5, 5, 5, 5, 5, 5, 5, 5, 5, 6, 6, 6, 6, 6, 6, 6, 6, 6, 6, 6, 6, 6, 6, 6, 6, 6, 6, 6, 6, 6, 6, 6, 6, 6, 6, 6, 6, 6, 6, 6, 6, 7, 7, 7, 7, 7, 7, 7, 7, 7, 7, 7, 7, 7, 7, 7, 7, 7, 7, 7, 7, 7, 7, 7, 7, 7, 7, 7, 7, 7, 7, 7, 7, 7, 7, 7, 7, 7, 7, 7, 7, 7, 7, 7, 7, 7, 7, 7, 7, 7, 7, 7, 7, 7, 7, 7, 7, 7, 7, 7, 7, 7, 7, 7, 7, 8, 8, 8, 8, 8, 8, 8, 8, 8, 8, 8, 8, 8, 8, 8, 8, 8, 8, 8, 8, 8, 8, 8, 8, 8, 8, 8, 8, 8, 8, 8, 8, 8, 8, 8, 8, 8, 8, 8, 8, 8, 8, 8, 8, 8, 8, 8, 8, 8, 8, 8, 8, 8, 8, 8, 8, 8, 8, 8, 8, 8, 8, 8, 8, 8, 8, 8, 8, 8, 8, 8, 8, 8, 8, 8, 8, 8, 8, 8, 8, 8, 8, 8, 8, 8, 8, 8, 8, 8, 8, 8, 8, 8, 8, 8, 8, 8, 8, 8, 8, 8, 8, 8, 8, 8, 8, 8, 8, 8, 8, 8, 8, 8, 8, 8, 8, 8, 8, 8, 8, 8, 8, 8, 8, 8, 8, 8, 8]⟩ : ByteArray) (ji15)
              replace p18 := eq_true p18
              replace q18 := eq_true q18
              go_wp2
              go_ret
              exact ⟨by first | rfl | (simp; done) | (simp only [← hji15] <;> (first | rfl | simp)) | (simp [*]; done), by repeat (first | exact Drawn0.refl _ | apply Drawn0.step)⟩
            · rw [if_neg c17] at H
              exact absurd H (by simp)
          · rw [if_neg c16] at H
            exact absurd H (by simp)
        · rw [if_neg c14] at H
          have c14b0 : decide (256 ≤ x0_1) = false := decide_eq_false c14
          clear c14
          obtain ⟨ji19, hji19⟩ : ∃ j_ : Int, ((x0_1) % 256) = j_ := ⟨_, rfl⟩
          replace H : (if 0 ≤ (ji19) then (if (ji19) < 256 then (some (wrap64 (x2_1 + (wrap64 (bt (⟨#[0, 1, 2, 2, 3, 3, 3, 3, 4, 4, 4, 4, 4, 4, 4, 4, 5, 5, 5, 5, 5, 5, 5, 5, 5, 5, 5, 5, 5, 5, 5, 5, 6, 6, 6, 6, 6, 6, 6, 6, 6, 6, 6, 6, 6, 6, 6, 6, 6, 6, 6, 6, 6, 6, 6, 6, 6, 6, 6, 6, 6, 6, 6, 6, 7, 7, 7, 7, 7, 7, 7, 7, 7, 7, 7, 7, 7, 7, 7, 7, 7, 7, 7, 7, 7, 7, 7, 7, 7, 7, 7, 7, 7, 7, 7, 7, 7, 7, 7, 7, 7, 7, 7, 7, 7, 7, 7, 7, 7, 7, 7, 7, 7, 7, 7, 7, 7, 7, 7, 7, 7, 7, 7, 7, 7, 7, 7, 7, 8, 8, 8, 8, 8, 8, 8, 8, 8, 8, 8, 8, 8, 8, 8, 8, 8, 8, 8, 8, 8, 8, 8, 8, 8, 8, 8, 8, 8, 8, 8, 8, 8, 8, 8, 8, 8, 8, 8, 8, 8, 8, 8, 8, 8, 8, 8, 8, 8, 8, 8, 8, 8, 8, 8, 8, 8, 8, 8, 8, 8, 8, 8, 8, 8, 8, 8, 8, 8, 8, 8, 8, 8, 8, 8, 8, 8, 8, 8, 8, 8, 8, 8, 8, 8, 8, 8, 8, 8, 8, 8, 8, 8, 8, 8, 8, 8, 8, 8, 8, 8, 8, 8, 8, 8, 8, 8, 8, 8, 8, 8, 8, 8, 8, 8, 8, 8, 8, 8, 8, 8, 8, 8, 8, 8, 8, 8, 8]⟩ : ByteArray) (ji19)))))) else (none)) else (none)) = some r := by first | (rw [hji19] at H; exact H) | (simp only [hji19] at H ⊢; exact H)
          by_cases c20 : 0 ≤ (ji19)
          · rw [if_pos c20] at H
            have c20b0 : decide (0 ≤ (ji19)) = true := decide_eq_true c20
            clear c20
            by_cases c21 : (ji19) < 256
            · rw [if_pos c21] at H
              have c21b0 : decide ((ji19) < 256) = true := decide_eq_true c21
              clear c21
              obtain rfl := Option.some.inj H
              have p22 : 0 ≤ ((ji19) : Int) := of_decide_eq_true (by first | (with_reducible assumption) | assumption)
              have q22 : (ji19) < (256 : Int) := of_decide_eq_true (by first | (with_reducible assumption) | assumption)
              have hx22 := bt_at (⟨#[0, 1, 2, 2, 3, 3, 3, 3, 4, 4, 4, 4, 4, 4, 4, 4, 5, 5, 5, 5, 5, 5, 5, 5, 5, 5, 5, 5, 5, 5, 5, 5, 6, 6, 6, 6, 6, 6, 6, 6, 6, 6, 6, 6, 6, 6, 6, 6, 6, 6, 6, 6, 6, 6, 6, 6, 6, 6, 6, 6, 6, 6, 6, 6, 7, 7, 7, 7, 7, 7, 7, 7, 7, 7, 7, 7, 7, 7, 7, 7, 7, 7, 7, 7, 7, 7, 7, 7, 7, 7, 7, 7, 7, 7, 7, 7, 7, 7, 7, 7, 7, 7, 7, 7, 7, 7, 7, 7, 7, 7, 7, 7, 7, 7, 7, 7, 7, 7, 7, 7, 7, 7, 7, 7, 7, 7, 7, 7, 8, 8, 8, 8, 8, 8, 8, 8, 8, 8, 8, 8, 8, 8, 8, 8, 8, 8, 8, 8, 8, 8, 8, 8, 8, 8, 8, 8, 8, 8, 8, 8, 8, 8, 8, 8, 8, 8, 8, 8, 8, 8, 8, 8, 8, 8, 8, 8, 8, 8, 8, 8, 8, 8, 8, 8, 8, 8, 8, 8, 8, 8, 8, 8, 8, 8, 8, 8, 8, 8, 8, 8, 8, 8, 8, 8, 8, 8, 8, 8, 8, 8, 8, 8, 8, 8, 8, 8, 8, 8, 8, 8, 8, 8, 8, 8, 8, 8, 8, 8, 8, 8, 8, 8, 8, 8, 8, 8, 8, 8, 8, 8, 8, 8, 8, 8, 8, 8, 8, 8, 8, 8, 8, 8, 8, 8, 8, 8]⟩ : ByteArray) (ji19)
              replace p22 := eq_true p22
              replace q22 := eq_true q22
              go_wp2
              go_ret
              exact ⟨by first | rfl | (simp; done) | (simp only [← hji19] <;> (first | rfl | simp)) | (simp [*]; done), by repeat (first | exact Drawn0.refl _ | apply Drawn0.step)⟩
            · rw [if_neg c21] at H
              exact absurd H (by simp)
          · rw [if_neg c20] at H
            exact absurd H (by simp)

/-! ### logs_Bits: function 91 -/
def logs_Bits.f (k : Nat) (a0 : Int) : Option (Int) := (bits_Len64.f k a0).bind fun t109 => (some t109)
theorem logs_Bits.mono : ∀ a0 k, LeO (logs_Bits.f k a0) (logs_Bits.f (k + 1) a0) := by
  intro a0 k
  unfold logs_Bits.f
  repeat' first
      | (with_reducible exact bits_Len64.mono _ _)
      | (with_reducible exact LeO.refl _)
      | (with_reducible exact LeO.none _)
      | (with_reducible refine LeO.ite ?_ ?_)
      | (with_reducible refine LeO.bind ?_ (fun _ => ?_))
      | exact bits_Len64.mono _ _
      | exact LeO.none _
      | refine LeO.ite ?_ ?_
      | refine LeO.bind ?_ (fun _ => ?_)
set_option maxHeartbeats 8000000 in
set_option maxRecDepth 100000 in
theorem logs_Bits.calls (k : Nat) (a0 : Int) (r : Int) (w : World) (h : logs_Bits.f k a0 = some r) :
    Calls Try.prog 91 #[.int .u64 a0] w fun e w' => e = .returned (.int .i64 r) ∧ Drawn0 w w' := by
  have H : ((bits_Len64.f k a0).bind fun t109 => (some t109)) = some r := h
  clear h
  replace H := Option.bind_eq_some_iff.mp H
  obtain ⟨t109, A20, H⟩ := H
  replace H : (some t109) = some r := H
  have A2 := Aside0.mk A20
  clear A20
  obtain rfl := Option.some.inj H
  go_enter Try.func91, Try.ntmps91
  go_wp2_with (first | ((with_reducible refine gate_callee (f := 107) rfl ?_); refine goesL_ (some 4) rfl rfl Try.func107 (by kernel_rfl) rfl #[.int .u64 a0] rfl (by (try simp only [List.map_toArray, List.map_cons, List.map_nil]); first | done | rfl | (simp only [List.length_drop, List.length_take]; rfl)) ?_; (with_reducible refine (bits_Len64.calls k a0 t109 _ A2.out).mono ?_); rintro e w' ⟨rfl, ⟨nd, rfl⟩⟩; refine ⟨_, rfl, ?_⟩))
  go_ret
  exact ⟨by first | rfl | (simp; done) | (simp [*]; done), by repeat (first | exact Drawn0.refl _ | apply Drawn0.step)⟩

/-! ### logs_Log: function 90 -/
def logs_Log.l0 : Nat → Int → Int → Int → Option (Int × Int)
  | 0, _, _, _ => none
  | k + 1, x5, x6, x24 => if x24 < 8 then (if 0 ≤ (((IntKind.u64.wrap (x5 * x5)) / 1073741824) / 2147483648) then (logs_Log.l0 k (shr .u64 ((IntKind.u64.wrap (x5 * x5)) / 1073741824) (((IntKind.u64.wrap (x5 * x5)) / 1073741824) / 2147483648)) (Go.bits .or .i32 (wrap32 (x6 * 2)) (wrap32 (((IntKind.u64.wrap (x5 * x5)) / 1073741824) / 2147483648))) (wrap64 (x24 + 1))) else (none)) else (some (x6, 0))
def logs_Log.f (k : Nat) (a0 : Int) : Option (Int × Int) := (logs_Bits.f k a0).bind fun t110 => (if (wrap64 (t110 - 1)) < 0 then (some (0, 1)) else (logs_Log.l0 k (shr .u64 (shl .u64 a0 (mx (wrap64 (30 - (wrap64 (t110 - 1)))) 0)) (mx (wrap64 ((wrap64 (t110 - 1)) - 30)) 0)) (wrap32 (wrap64 (t110 - 1))) 0))
theorem logs_Log.mono_l : ∀ k, (∀ y0 y1 y2, LeO (logs_Log.l0 k y0 y1 y2) (logs_Log.l0 (k + 1) y0 y1 y2))
  | 0 => fun _ _ _ r h => by simp [logs_Log.l0] at h
  | k + 1 => by
    have ih0 := logs_Log.mono_l k
    · intro y0 y1 y2
      unfold logs_Log.l0
      repeat' first
      | (with_reducible exact ih0 _ _ _)
      | (with_reducible exact logs_Bits.mono _ _)
      | (with_reducible exact LeO.refl _)
      | (with_reducible exact LeO.none _)
      | (with_reducible refine LeO.ite ?_ ?_)
      | (with_reducible refine LeO.bind ?_ (fun _ => ?_))
      | exact ih0 _ _ _
      | exact logs_Bits.mono _ _
      | exact LeO.none _
      | refine LeO.ite ?_ ?_
      | refine LeO.bind ?_ (fun _ => ?_)
theorem logs_Log.mono : ∀ a0 k, LeO (logs_Log.f k a0) (logs_Log.f (k + 1) a0) := by
  intro a0 k
  have ih0 := logs_Log.mono_l k
  unfold logs_Log.f
  repeat' first
      | (with_reducible exact ih0 _ _ _)
      | (with_reducible exact logs_Bits.mono _ _)
      | (with_reducible exact LeO.refl _)
      | (with_reducible exact LeO.none _)
      | (with_reducible refine LeO.ite ?_ ?_)
      | (with_reducible refine LeO.bind ?_ (fun _ => ?_))
      | exact ih0 _ _ _
      | exact logs_Bits.mono _ _
      | exact LeO.none _
      | refine LeO.ite ?_ ?_
      | refine LeO.bind ?_ (fun _ => ?_)
set_option maxHeartbeats 8000000 in
set_option maxRecDepth 100000 in
theorem logs_Log.calls (k : Nat) (a0 : Int) (r1 : Int) (r2 : Int) (w : World) (h : logs_Log.f k a0 = some (r1, r2)) :
    Calls Try.prog 90 #[.int .u64 a0] w fun e w' => e = .returned (.tuple #[.int .i32 r1, .int .i64 r2]) ∧ Below w.heap.size w w' := by
  have HB := Aside0.mk (Below.refl w.heap.size w)
  have H : ((logs_Bits.f k a0).bind fun t110 => (if (wrap64 (t110 - 1)) < 0 then (some (0, 1)) else (logs_Log.l0 k (shr .u64 (shl .u64 a0 (mx (wrap64 (30 - (wrap64 (t110 - 1)))) 0)) (mx (wrap64 ((wrap64 (t110 - 1)) - 30)) 0)) (wrap32 (wrap64 (t110 - 1))) 0))) = some (r1, r2) := h
  clear h
  replace H := Option.bind_eq_some_iff.mp H
  obtain ⟨t110, A20, H⟩ := H
  replace H : (if (wrap64 (t110 - 1)) < 0 then (some (0, 1)) else (logs_Log.l0 k (shr .u64 (shl .u64 a0 (mx (wrap64 (30 - (wrap64 (t110 - 1)))) 0)) (mx (wrap64 ((wrap64 (t110 - 1)) - 30)) 0)) (wrap32 (wrap64 (t110 - 1))) 0)) = some (r1, r2) := H
  have A2 := Aside0.mk A20
  clear A20
  by_cases c3 : (wrap64 (t110 - 1)) < 0
  · rw [if_pos c3] at H
    have c3b0 : decide ((wrap64 (t110 - 1)) < 0) = true := decide_eq_true c3
    clear c3
    simp only [Option.some.injEq, Prod.mk.injEq] at H
    obtain ⟨rfl, rfl⟩ := H
    go_enter Try.func90, Try.ntmps90
    go_wp2_with (first | ((with_reducible refine gate_callee (f := 91) rfl ?_); refine goesL_ (some 9) rfl rfl Try.func91 (by kernel_rfl) rfl #[.int .u64 a0] rfl (by (try simp only [List.map_toArray, List.map_cons, List.map_nil]); first | done | rfl | (simp only [List.length_drop, List.length_take]; rfl)) ?_; (with_reducible refine (logs_Bits.calls k a0 t110 _ A2.out).mono ?_); rintro e w' ⟨rfl, ⟨nd, rfl⟩⟩; refine ⟨_, rfl, ?_⟩))
    go_ret2
    exact ⟨by first | rfl | (simp [errW_none, errW_some] <;> rfl) | (simp [*, errW_none, errW_some] <;> rfl), by repeat (first | (with_reducible first | exact HB.out | apply below_alloc | apply pw_below_drewN | apply below_drew1) | exact HB.out)⟩
  · rw [if_neg c3] at H
    have c3b0 : decide ((wrap64 (t110 - 1)) < 0) = false := decide_eq_false c3
    clear c3
    obtain ⟨ji4, hji4⟩ : ∃ j_ : Int, (mx (wrap64 (30 - (wrap64 (t110 - 1)))) 0) = j_ := ⟨_, rfl⟩
    replace H : (logs_Log.l0 k (shr .u64 (shl .u64 a0 (ji4)) (mx (wrap64 ((wrap64 (t110 - 1)) - 30)) 0)) (wrap32 (wrap64 (t110 - 1))) 0) = some (r1, r2) := by first | (rw [hji4] at H; exact H) | (simp only [hji4] at H ⊢; exact H)
    (try rw [hji4] at A2)
    (try (have hji4l : 0 ≤ ji4 := by (rw [← hji4]; unfold mx; (repeat' split) <;> omega)))
    (try (have hji4m : 0 ≤ ji4 := by omega))
    have hji4_ : (if (wrap64 (30 - (wrap64 (t110 - 1)))) < 0 then 0 else (wrap64 (30 - (wrap64 (t110 - 1))))) = ji4 := hji4
    obtain ⟨ji5, hji5⟩ : ∃ j_ : Int, (shl .u64 a0 (ji4)) = j_ := ⟨_, rfl⟩
    replace H : (logs_Log.l0 k (shr .u64 (ji5) (mx (wrap64 ((wrap64 (t110 - 1)) - 30)) 0)) (wrap32 (wrap64 (t110 - 1))) 0) = some (r1, r2) := by first | (rw [hji5] at H; exact H) | (simp only [hji5] at H ⊢; exact H)
    (try rw [hji5] at A2)
    have hji5_ : (IntKind.u64.wrap (a0 * 2 ^ min (ji4).toNat 64)) = ji5 := hji5
    have hji5z : (ji4) ≤ 64 → (IntKind.u64.wrap (a0 * 2 ^ (ji4).toNat)) = ji5 := shl_small hji5
    obtain ⟨ji6, hji6⟩ : ∃ j_ : Int, (mx (wrap64 ((wrap64 (t110 - 1)) - 30)) 0) = j_ := ⟨_, rfl⟩
    replace H : (logs_Log.l0 k (shr .u64 (ji5) (ji6)) (wrap32 (wrap64 (t110 - 1))) 0) = some (r1, r2) := by first | (rw [hji6] at H; exact H) | (simp only [hji6] at H ⊢; exact H)
    (try rw [hji6] at A2)
    (try (have hji6l : 0 ≤ ji6 := by (rw [← hji6]; unfold mx; (repeat' split) <;> omega)))
    (try (have hji6m : 0 ≤ ji6 := by omega))
    have hji6_ : (if (wrap64 ((wrap64 (t110 - 1)) - 30)) < 0 then 0 else (wrap64 ((wrap64 (t110 - 1)) - 30))) = ji6 := hji6
    obtain ⟨ji7, hji7⟩ : ∃ j_ : Int, (shr .u64 (ji5) (ji6)) = j_ := ⟨_, rfl⟩
    replace H : (logs_Log.l0 k ji7 (wrap32 (wrap64 (t110 - 1))) 0) = some (r1, r2) := by first | (rw [hji7] at H; exact H) | (simp only [hji7] at H ⊢; exact H)
    (try rw [hji7] at A2)
    have hji7_ : ((ji5) / 2 ^ min (ji6).toNat 64) = ji7 := hji7
    have hji7z : (ji6) ≤ 64 → ((ji5) / 2 ^ (ji6).toNat) = ji7 := shr_small hji7
    have H' := Aside0.mk H
    clear H
    go_enter Try.func90, Try.ntmps90
    go_wp2_with (first | ((with_reducible refine gate_callee (f := 91) rfl ?_); refine goesL_ (some 9) rfl rfl Try.func91 (by kernel_rfl) rfl #[.int .u64 a0] rfl (by (try simp only [List.map_toArray, List.map_cons, List.map_nil]); first | done | rfl | (simp only [List.length_drop, List.length_take]; rfl)) ?_; (with_reducible refine (logs_Bits.calls k a0 t110 _ A2.out).mono ?_); rintro e w' ⟨rfl, ⟨nd, rfl⟩⟩; refine ⟨_, rfl, ?_⟩))
    go_loopg [5, 6, 24] k (fun kq v5 v6 v24 w' => ∃ (x5_1 : Int) (x6_1 : Int) (x24_1 : Int), v5 = .int .u64 x5_1 ∧ v6 = .int .i32 x6_1 ∧ v24 = .int .i64 x24_1 ∧ Aside0 (logs_Log.l0 kq x5_1 x6_1 x24_1 = some (r1, r2)) ∧ Aside0 (kq ≤ k) ∧ Aside0 (Below w.heap.size w w'))
    case atStart => exact ⟨(ji7), (wrap32 (wrap64 (t110 - 1))), (0), (by first | rfl | (simp; done) | (simp only [← hji7] <;> (first | rfl | simp)) | (simp [*]; done)), (by first | rfl | (simp; done) | (simp [*]; done)), (by first | rfl | (simp; done) | (simp [*]; done)), H', ⟨Nat.le_refl _⟩, ⟨by repeat (first | (with_reducible first | exact HB.out | apply below_alloc | apply pw_below_drewN | apply below_drew1) | exact HB.out)⟩⟩
    case round =>
      clear H'
      try clear p2
      try clear c3
      try clear c3b0
      try clear p3
      try clear p6
      obtain ⟨x5_1, x6_1, x24_1, rfl, rfl, rfl, HA, HK1, HB⟩ := hrel
      cases gk with
      | zero => exact absurd HA.out (by simp [logs_Log.l0])
      | succ k1 =>
        have H := HA.out
        clear HA
        simp only [logs_Log.l0] at H
        by_cases c8 : x24_1 < 8
        · rw [if_pos c8] at H
          have c8b0 : decide (x24_1 < 8) = true := decide_eq_true c8
          clear c8
          obtain ⟨ji9, hji9⟩ : ∃ j_ : Int, (((IntKind.u64.wrap (x5_1 * x5_1)) / 1073741824) / 2147483648) = j_ := ⟨_, rfl⟩
          replace H : (if 0 ≤ (ji9) then (logs_Log.l0 k1 (shr .u64 ((IntKind.u64.wrap (x5_1 * x5_1)) / 1073741824) (ji9)) (Go.bits .or .i32 (wrap32 (x6_1 * 2)) (wrap32 (ji9))) (wrap64 (x24_1 + 1))) else (none)) = some (r1, r2) := by first | (rw [hji9] at H; exact H) | (simp only [hji9] at H ⊢; exact H)
          by_cases c10 : 0 ≤ (ji9)
          · rw [if_pos c10] at H
            have c10b0 := eq_true c10
            have c10b1 : decide (0 ≤ (ji9)) = true := decide_eq_true c10
            clear c10
            obtain ⟨ji11, hji11⟩ : ∃ j_ : Int, (shr .u64 ((IntKind.u64.wrap (x5_1 * x5_1)) / 1073741824) (ji9)) = j_ := ⟨_, rfl⟩
            replace H : (logs_Log.l0 k1 ji11 (Go.bits .or .i32 (wrap32 (x6_1 * 2)) (wrap32 (ji9))) (wrap64 (x24_1 + 1))) = some (r1, r2) := by first | (rw [hji11] at H; exact H) | (simp only [hji11] at H ⊢; exact H)
            have hji11_ : (((IntKind.u64.wrap (x5_1 * x5_1)) / 1073741824) / 2 ^ min (ji9).toNat 64) = ji11 := hji11
            have hji11z : (ji9) ≤ 64 → (((IntKind.u64.wrap (x5_1 * x5_1)) / 1073741824) / 2 ^ (ji9).toNat) = ji11 := shr_small hji11
            have H' := Aside0.mk H
            clear H
            go_wp2
            go_roundg k1
            case measure => have := HK1.out; omega
            case rel => exact ⟨(ji11), (Go.bits .or .i32 (wrap32 (x6_1 * 2)) (wrap32 (ji9))), (wrap64 (x24_1 + 1)), (by first | rfl | (simp; done) | (simp only [← hji11] <;> (first | rfl | simp)) | (simp [*]; done)), (by first | rfl | (simp; done) | (simp only [← hji9] <;> (first | rfl | simp)) | (simp [*]; done)), (by first | rfl | (simp; done) | (simp [*]; done)), H', ⟨by have := HK1.out; omega⟩, ⟨by repeat (first | (with_reducible first | exact HB.out | apply below_alloc | apply pw_below_drewN | apply below_drew1) | exact HB.out)⟩⟩
          · rw [if_neg c10] at H
            exact absurd H (by simp)
        · rw [if_neg c8] at H
          have c8b0 : decide (x24_1 < 8) = false := decide_eq_false c8
          clear c8
          simp only [Option.some.injEq, Prod.mk.injEq] at H
          obtain ⟨rfl, rfl⟩ := H
          go_wp2
          go_ret2
          exact ⟨by first | rfl | (simp [errW_none, errW_some] <;> rfl) | (simp only [← hji4, ← hji5, ← hji6, ← hji7]; first | rfl | (simp [errW_none, errW_some] <;> rfl)) | (simp [*, errW_none, errW_some] <;> rfl), by repeat (first | (with_reducible first | exact HB.out | apply below_alloc | apply pw_below_drewN | apply below_drew1) | exact HB.out)⟩

-- NOT PRINTED: function 57 (shape_loud)

-- NOT PRINTED: function 58 (shape_book)

-- NOT PRINTED: function 59 (shape_distance)

/-! ### fix_within_int64: function 85 -/
def fix_within_int64.f (a0 : Int) (a1 : Int) (a2 : Int) : Option (Int) := if a0 < a1 then (some a1) else (if a0 > a2 then (some a2) else (some a0))
set_option maxHeartbeats 8000000 in
set_option maxRecDepth 100000 in
theorem fix_within_int64.calls (a0 : Int) (a1 : Int) (a2 : Int) (r : Int) (w : World) (h : fix_within_int64.f a0 a1 a2 = some r) :
    Calls Try.prog 85 #[.int .i64 a0, .int .i64 a1, .int .i64 a2] w fun e w' => e = .returned (.int .i64 r) ∧ Drawn0 w w' := by
  have H : (if a0 < a1 then (some a1) else (if a0 > a2 then (some a2) else (some a0))) = some r := h
  clear h
  by_cases c4 : a0 < a1
  · rw [if_pos c4] at H
    have c4b0 : decide (a0 < a1) = true := decide_eq_true c4
    clear c4
    obtain rfl := Option.some.inj H
    go_enter Try.func85, Try.ntmps85
    go_wp2
    go_ret
    exact ⟨by first | rfl | (simp; done) | (simp [*]; done), by repeat (first | exact Drawn0.refl _ | apply Drawn0.step)⟩
  · rw [if_neg c4] at H
    have c4b0 : decide (a0 < a1) = false := decide_eq_false c4
    clear c4
    by_cases c5 : a0 > a2
    · rw [if_pos c5] at H
      have c5b0 : decide (a2 < a0) = true := decide_eq_true c5
      clear c5
      obtain rfl := Option.some.inj H
      go_enter Try.func85, Try.ntmps85
      go_wp2
      go_ret
      exact ⟨by first | rfl | (simp; done) | (simp [*]; done), by repeat (first | exact Drawn0.refl _ | apply Drawn0.step)⟩
    · rw [if_neg c5] at H
      have c5b0 : decide (a2 < a0) = false := decide_eq_false c5
      clear c5
      obtain rfl := Option.some.inj H
      go_enter Try.func85, Try.ntmps85
      go_wp2
      go_ret
      exact ⟨by first | rfl | (simp; done) | (simp [*]; done), by repeat (first | exact Drawn0.refl _ | apply Drawn0.step)⟩

/-! ### fix_Clip: function 60 -/
def fix_Clip.f (a0 : Int) (a1 : Int) (a2 : Int) : Option (Int) := (fix_within_int64.f a0 a1 a2).bind fun t111 => (some t111)
set_option maxHeartbeats 8000000 in
set_option maxRecDepth 100000 in
theorem fix_Clip.calls (a0 : Int) (a1 : Int) (a2 : Int) (r : Int) (w : World) (h : fix_Clip.f a0 a1 a2 = some r) :
    Calls Try.prog 60 #[.int .i64 a0, .int .i64 a1, .int .i64 a2] w fun e w' => e = .returned (.int .i64 r) ∧ Drawn0 w w' := by
  have H : ((fix_within_int64.f a0 a1 a2).bind fun t111 => (some t111)) = some r := h
  clear h
  replace H := Option.bind_eq_some_iff.mp H
  obtain ⟨t111, A40, H⟩ := H
  replace H : (some t111) = some r := H
  have A4 := Aside0.mk A40
  clear A40
  obtain rfl := Option.some.inj H
  go_enter Try.func60, Try.ntmps60
  go_wp2_with (first | ((with_reducible refine gate_callee (f := 85) rfl ?_); refine goesL_ (some 10) rfl rfl Try.func85 (by kernel_rfl) rfl #[.int .i64 a0, .int .i64 a1, .int .i64 a2] rfl (by (try simp only [List.map_toArray, List.map_cons, List.map_nil]); first | done | rfl | (simp only [List.length_drop, List.length_take]; rfl)) ?_; (with_reducible refine (fix_within_int64.calls a0 a1 a2 t111 _ A4.out).mono ?_); rintro e w' ⟨rfl, ⟨nd, rfl⟩⟩; refine ⟨_, rfl, ?_⟩))
  go_ret
  exact ⟨by first | rfl | (simp; done) | (simp [*]; done), by repeat (first | exact Drawn0.refl _ | apply Drawn0.step)⟩

-- NOT PRINTED: function 25 (shape_Find)

-- NOT PRINTED: function 24 (psalterylaw16_alive)

/-! ### psalteryref09_May: function 61 -/
def psalteryref09_May.f (a0 : Int) : Option (Bool) := if a0 = 40 then (some true) else (if a0 = 60 then (some true) else (if a0 = 80 then (some true) else (some (a0 == 120))))
set_option maxHeartbeats 8000000 in
set_option maxRecDepth 100000 in
theorem psalteryref09_May.calls (a0 : Int) (r : Bool) (w : World) (h : psalteryref09_May.f a0 = some r) :
    Calls Try.prog 61 #[.int .i64 a0] w fun e w' => e = .returned (.bool r) ∧ Drawn0 w w' := by
  have H : (if a0 = 40 then (some true) else (if a0 = 60 then (some true) else (if a0 = 80 then (some true) else (some (a0 == 120))))) = some r := h
  clear h
  by_cases c2 : a0 = 40
  · rw [if_pos c2] at H
    have c2b0 : (a0 == 40) = true := beq_iff_eq.mpr c2
    have c2b1 : (a0 != 40) = false := bne_eq_false_iff_eq.mpr c2
    clear c2
    obtain rfl := Option.some.inj H
    go_enter Try.func61, Try.ntmps61
    go_wp2
    go_ret
    exact ⟨by first | rfl | (simp; done) | (simp [*]; done), by repeat (first | exact Drawn0.refl _ | apply Drawn0.step)⟩
  · rw [if_neg c2] at H
    have c2b0 : (a0 == 40) = false := beq_eq_false_iff_ne.mpr c2
    have c2b1 : (a0 != 40) = true := bne_iff_ne.mpr c2
    by_cases c3 : a0 = 60
    · rw [if_pos c3] at H
      have c3b0 : (a0 == 60) = true := beq_iff_eq.mpr c3
      have c3b1 : (a0 != 60) = false := bne_eq_false_iff_eq.mpr c3
      clear c3
      obtain rfl := Option.some.inj H
      go_enter Try.func61, Try.ntmps61
      go_wp2
      go_ret
      exact ⟨by first | rfl | (simp; done) | (simp [*]; done), by repeat (first | exact Drawn0.refl _ | apply Drawn0.step)⟩
    · rw [if_neg c3] at H
      have c3b0 : (a0 == 60) = false := beq_eq_false_iff_ne.mpr c3
      have c3b1 : (a0 != 60) = true := bne_iff_ne.mpr c3
      by_cases c4 : a0 = 80
      · rw [if_pos c4] at H
        have c4b0 : (a0 == 80) = true := beq_iff_eq.mpr c4
        have c4b1 : (a0 != 80) = false := bne_eq_false_iff_eq.mpr c4
        clear c4
        obtain rfl := Option.some.inj H
        go_enter Try.func61, Try.ntmps61
        go_wp2
        go_ret
        exact ⟨by first | rfl | (simp; done) | (simp [*]; done), by repeat (first | exact Drawn0.refl _ | apply Drawn0.step)⟩
      · rw [if_neg c4] at H
        have c4b0 : (a0 == 80) = false := beq_eq_false_iff_ne.mpr c4
        have c4b1 : (a0 != 80) = true := bne_iff_ne.mpr c4
        obtain rfl := Option.some.inj H
        go_enter Try.func61, Try.ntmps61
        go_wp2
        go_ret
        exact ⟨by first | rfl | (simp; done) | (simp [*]; done), by repeat (first | exact Drawn0.refl _ | apply Drawn0.step)⟩

/-! ### psalteryref15_May: function 26 -/
def psalteryref15_May.f (l0 : List Int) : Option (Bool) := (psalteryref09_May.f (l0.length : Int)).bind fun t116 => (some t116)
set_option maxHeartbeats 8000000 in
set_option maxRecDepth 100000 in
theorem psalteryref15_May.calls (A0 : Option Addr) (c0 : Nat) (l0 : List Int) (r : Bool) (w : World) (hr0 : Kd.C (Kd.int .i32) w A0 l0.length l0) (hc0 : l0.length ≤ c0) (h : psalteryref15_May.f l0 = some r) :
    Calls Try.prog 26 #[.slice A0 l0.length c0] w fun e w' => e = .returned (.bool r) ∧ Drawn0 w w' := by
  have HR0 := Aside0.mk hr0
  have HC0 := Aside0.mk hc0
  clear hr0 hc0
  have H : ((psalteryref09_May.f (l0.length : Int)).bind fun t116 => (some t116)) = some r := h
  clear h
  replace H := Option.bind_eq_some_iff.mp H
  obtain ⟨t116, A20, H⟩ := H
  replace H : (some t116) = some r := H
  have A2 := Aside0.mk A20
  clear A20
  obtain rfl := Option.some.inj H
  go_enter Try.func26, Try.ntmps26
  go_wp2_with (first | ((with_reducible refine gate_callee (f := 61) rfl ?_); refine goesL_ (some 5) rfl rfl Try.func61 (by kernel_rfl) rfl #[.int .i64 (l0.length : Int)] rfl (by (try simp only [List.map_toArray, List.map_cons, List.map_nil]); first | done | rfl | (simp only [List.length_drop, List.length_take]; rfl)) ?_; (with_reducible refine (psalteryref09_May.calls (l0.length : Int) t116 _ A2.out).mono ?_); rintro e w' ⟨rfl, ⟨nd, rfl⟩⟩; refine ⟨_, rfl, ?_⟩))
  go_ret
  exact ⟨by first | rfl | (simp; done) | (simp [*]; done), by repeat (first | exact Drawn0.refl _ | apply Drawn0.step)⟩

/-! ### psalteryref15_Edge: function 63 -/
def psalteryref15_Edge.f (a0 : Int) (a1 : Int) : Option (Int) := if a0 = 40 then ((some (([0, 2, 4, 7, 11, 16, 23, 31, 40] : List Int) : List Int)).bind fun y117 => (if 0 ≤ a1 then (if a1 < (y117.length : Int) then (some (rd y117 a1)) else (none)) else (none))) else (if a0 = 60 then ((some (([0, 3, 6, 10, 16, 24, 34, 46, 60] : List Int) : List Int)).bind fun y121 => (if 0 ≤ a1 then (if a1 < (y121.length : Int) then (some (rd y121 a1)) else (none)) else (none))) else (if a0 = 80 then ((some (([0, 4, 8, 14, 22, 32, 46, 62, 80] : List Int) : List Int)).bind fun y125 => (if 0 ≤ a1 then (if a1 < (y125.length : Int) then (some (rd y125 a1)) else (none)) else (none))) else ((some (([0, 6, 12, 21, 33, 48, 69, 93, 120] : List Int) : List Int)).bind fun y129 => (if 0 ≤ a1 then (if a1 < (y129.length : Int) then (some (rd y129 a1)) else (none)) else (none)))))
set_option maxHeartbeats 8000000 in
set_option maxRecDepth 100000 in
theorem psalteryref15_Edge.calls (a0 : Int) (a1 : Int) (r : Int) (w : World) (h : psalteryref15_Edge.f a0 a1 = some r) :
    Calls Try.prog 63 #[.int .i64 a0, .int .i64 a1] w fun e w' => e = .returned (.int .i64 r) ∧ Below w.heap.size w w' := by
  have HB := Aside0.mk (Below.refl w.heap.size w)
  have H : (if a0 = 40 then ((some (([0, 2, 4, 7, 11, 16, 23, 31, 40] : List Int) : List Int)).bind fun y117 => (if 0 ≤ a1 then (if a1 < (y117.length : Int) then (some (rd y117 a1)) else (none)) else (none))) else (if a0 = 60 then ((some (([0, 3, 6, 10, 16, 24, 34, 46, 60] : List Int) : List Int)).bind fun y121 => (if 0 ≤ a1 then (if a1 < (y121.length : Int) then (some (rd y121 a1)) else (none)) else (none))) else (if a0 = 80 then ((some (([0, 4, 8, 14, 22, 32, 46, 62, 80] : List Int) : List Int)).bind fun y125 => (if 0 ≤ a1 then (if a1 < (y125.length : Int) then (some (rd y125 a1)) else (none)) else (none))) else ((some (([0, 6, 12, 21, 33, 48, 69, 93, 120] : List Int) : List Int)).bind fun y129 => (if 0 ≤ a1 then (if a1 < (y129.length : Int) then (some (rd y129 a1)) else (none)) else (none)))))) = some r := h
  clear h
  by_cases c3 : a0 = 40
  · rw [if_pos c3] at H
    have c3b0 : (a0 == 40) = true := beq_iff_eq.mpr c3
    have c3b1 : (a0 != 40) = false := bne_eq_false_iff_eq.mpr c3
    clear c3
    obtain ⟨y117, hy117⟩ : ∃ y_ : List Int, y_ = (([0, 2, 4, 7, 11, 16, 23, 31, 40] : List Int)) := ⟨_, rfl⟩
    replace H : (if 0 ≤ a1 then (if a1 < (y117.length : Int) then (some (rd y117 a1)) else (none)) else (none)) = some r := by first | (rw [hy117]; with_reducible exact H) | (have H2_ := (Option.bind_some _ _).symm.trans H; rw [hy117]; with_reducible exact H2_) | (have H2_ := (Option.bind_some _ _).symm.trans H; with_reducible exact H2_) | with_reducible exact H | (rw [hy117]; exact H) | exact H
    have Ny117 := Aside0.mk hy117
    clear hy117
    by_cases c4 : 0 ≤ a1
    · rw [if_pos c4] at H
      have c4b0 : decide (0 ≤ a1) = true := decide_eq_true c4
      clear c4
      by_cases c5 : a1 < (y117.length : Int)
      · rw [if_pos c5] at H
        have c5b0 : decide (a1 < (y117.length : Int)) = true := decide_eq_true c5
        clear c5
        obtain rfl := Option.some.inj H
        go_enter Try.func63, Try.ntmps63
        go_wp2_with (first | ((with_reducible refine gate_dst (N := 8) rfl ?_); refine Kd.R_lit (Kd.int .i64) _ 3 ?hg (N := 8) ?hd (xs := ([0, 2, 4, 7, 11, 16, 23, 31, 40] : List Int)) (inner := [.int .i64 0, .int .i64 2, .int .i64 4, .int .i64 7, .int .i64 11, .int .i64 16, .int .i64 23, .int .i64 31, .int .i64 40]) (ok := fun _ => True) (okp := fun _ => True) ?hr ?hp (fun _ hk => hk) trivial (Below.refl _ _) (Nat.le_refl _) (by simp) ?_; (case hd => rfl); (case hg => rfl); (case hr => first | (go_simp; done) | (go_simp; rfl)); (case hp => exact (Reps.one (show Kd.M (Kd.int .i64) _ _ _ 0 [.int .i64 0] from rfl) (Reps.one (show Kd.M (Kd.int .i64) _ _ _ 2 [.int .i64 2] from rfl) (Reps.one (show Kd.M (Kd.int .i64) _ _ _ 4 [.int .i64 4] from rfl) (Reps.one (show Kd.M (Kd.int .i64) _ _ _ 7 [.int .i64 7] from rfl) (Reps.one (show Kd.M (Kd.int .i64) _ _ _ 11 [.int .i64 11] from rfl) (Reps.one (show Kd.M (Kd.int .i64) _ _ _ 16 [.int .i64 16] from rfl) (Reps.one (show Kd.M (Kd.int .i64) _ _ _ 23 [.int .i64 23] from rfl) (Reps.one (show Kd.M (Kd.int .i64) _ _ _ 31 [.int .i64 31] from rfl) (Reps.one (show Kd.M (Kd.int .i64) _ _ _ 40 [.int .i64 40] from rfl) (Reps.none _ _))))))))))); intro v118 w6 ho7 hb hg_ hnew_; clear hg_ hnew_; (first | rw [← Ny117.out] at ho7 | (simp only [Int.reduceToNat] at ho7; rw [← Ny117.out] at ho7)); have n0_ := Aside0.mk (Kd.R_lower ho7 (below_size (by repeat (first | (with_reducible first | exact HB.out | apply below_alloc | apply pw_below_drewN | apply below_drew1) | exact HB.out)))); have n1_ := Aside0.mk (below_step (by repeat (first | (with_reducible first | exact HB.out | apply below_alloc | apply pw_below_drewN | apply below_drew1) | exact HB.out)) hb); clear HB; have HO119 := n0_; have HB := n1_; clear n0_ n1_; clear hb ho7; obtain ⟨Ao8, co8, eo8⟩ := Kd.R_slice HO119.out; subst eo8; have p120 : 0 ≤ (a1 : Int) := of_decide_eq_true (by first | (with_reducible assumption) | assumption); have q120 : a1 < (y117.length : Int) := of_decide_eq_true (by first | (with_reducible assumption) | assumption); obtain ⟨ad120, e120, hx120_0⟩ := Kd.at_int (Kd.R_reads' HO119.out).2.2 a1 p120 q120; cases e120; replace p120 := eq_true p120; replace q120 := eq_true q120))
        go_ret
        exact ⟨by first | rfl | (simp [errW_none, errW_some] <;> rfl) | (simp [*, errW_none, errW_some] <;> rfl), by repeat (first | (with_reducible first | exact HB.out | apply below_alloc | apply pw_below_drewN | apply below_drew1) | exact HB.out)⟩
      · rw [if_neg c5] at H
        exact absurd H (by simp)
    · rw [if_neg c4] at H
      exact absurd H (by simp)
  · rw [if_neg c3] at H
    have c3b0 : (a0 == 40) = false := beq_eq_false_iff_ne.mpr c3
    have c3b1 : (a0 != 40) = true := bne_iff_ne.mpr c3
    by_cases c9 : a0 = 60
    · rw [if_pos c9] at H
      have c9b0 : (a0 == 60) = true := beq_iff_eq.mpr c9
      have c9b1 : (a0 != 60) = false := bne_eq_false_iff_eq.mpr c9
      clear c9
      obtain ⟨y121, hy121⟩ : ∃ y_ : List Int, y_ = (([0, 3, 6, 10, 16, 24, 34, 46, 60] : List Int)) := ⟨_, rfl⟩
      replace H : (if 0 ≤ a1 then (if a1 < (y121.length : Int) then (some (rd y121 a1)) else (none)) else (none)) = some r := by first | (rw [hy121]; with_reducible exact H) | (have H2_ := (Option.bind_some _ _).symm.trans H; rw [hy121]; with_reducible exact H2_) | (have H2_ := (Option.bind_some _ _).symm.trans H; with_reducible exact H2_) | with_reducible exact H | (rw [hy121]; exact H) | exact H
      have Ny121 := Aside0.mk hy121
      clear hy121
      by_cases c10 : 0 ≤ a1
      · rw [if_pos c10] at H
        have c10b0 : decide (0 ≤ a1) = true := decide_eq_true c10
        clear c10
        by_cases c11 : a1 < (y121.length : Int)
        · rw [if_pos c11] at H
          have c11b0 : decide (a1 < (y121.length : Int)) = true := decide_eq_true c11
          clear c11
          obtain rfl := Option.some.inj H
          go_enter Try.func63, Try.ntmps63
          go_wp2_with (first | ((with_reducible refine gate_dst (N := 14) rfl ?_); refine Kd.R_lit (Kd.int .i64) _ 3 ?hg (N := 14) ?hd (xs := ([0, 3, 6, 10, 16, 24, 34, 46, 60] : List Int)) (inner := [.int .i64 0, .int .i64 3, .int .i64 6, .int .i64 10, .int .i64 16, .int .i64 24, .int .i64 34, .int .i64 46, .int .i64 60]) (ok := fun _ => True) (okp := fun _ => True) ?hr ?hp (fun _ hk => hk) trivial (Below.refl _ _) (Nat.le_refl _) (by simp) ?_; (case hd => rfl); (case hg => rfl); (case hr => first | (go_simp; done) | (go_simp; rfl)); (case hp => exact (Reps.one (show Kd.M (Kd.int .i64) _ _ _ 0 [.int .i64 0] from rfl) (Reps.one (show Kd.M (Kd.int .i64) _ _ _ 3 [.int .i64 3] from rfl) (Reps.one (show Kd.M (Kd.int .i64) _ _ _ 6 [.int .i64 6] from rfl) (Reps.one (show Kd.M (Kd.int .i64) _ _ _ 10 [.int .i64 10] from rfl) (Reps.one (show Kd.M (Kd.int .i64) _ _ _ 16 [.int .i64 16] from rfl) (Reps.one (show Kd.M (Kd.int .i64) _ _ _ 24 [.int .i64 24] from rfl) (Reps.one (show Kd.M (Kd.int .i64) _ _ _ 34 [.int .i64 34] from rfl) (Reps.one (show Kd.M (Kd.int .i64) _ _ _ 46 [.int .i64 46] from rfl) (Reps.one (show Kd.M (Kd.int .i64) _ _ _ 60 [.int .i64 60] from rfl) (Reps.none _ _))))))))))); intro v122 w12 ho13 hb hg_ hnew_; clear hg_ hnew_; (first | rw [← Ny121.out] at ho13 | (simp only [Int.reduceToNat] at ho13; rw [← Ny121.out] at ho13)); have n0_ := Aside0.mk (Kd.R_lower ho13 (below_size (by repeat (first | (with_reducible first | exact HB.out | apply below_alloc | apply pw_below_drewN | apply below_drew1) | exact HB.out)))); have n1_ := Aside0.mk (below_step (by repeat (first | (with_reducible first | exact HB.out | apply below_alloc | apply pw_below_drewN | apply below_drew1) | exact HB.out)) hb); clear HB; have HO123 := n0_; have HB := n1_; clear n0_ n1_; clear hb ho13; obtain ⟨Ao14, co14, eo14⟩ := Kd.R_slice HO123.out; subst eo14; have p124 : 0 ≤ (a1 : Int) := of_decide_eq_true (by first | (with_reducible assumption) | assumption); have q124 : a1 < (y121.length : Int) := of_decide_eq_true (by first | (with_reducible assumption) | assumption); obtain ⟨ad124, e124, hx124_0⟩ := Kd.at_int (Kd.R_reads' HO123.out).2.2 a1 p124 q124; cases e124; replace p124 := eq_true p124; replace q124 := eq_true q124))
          go_ret
          exact ⟨by first | rfl | (simp [errW_none, errW_some] <;> rfl) | (simp [*, errW_none, errW_some] <;> rfl), by repeat (first | (with_reducible first | exact HB.out | apply below_alloc | apply pw_below_drewN | apply below_drew1) | exact HB.out)⟩
        · rw [if_neg c11] at H
          exact absurd H (by simp)
      · rw [if_neg c10] at H
        exact absurd H (by simp)
    · rw [if_neg c9] at H
      have c9b0 : (a0 == 60) = false := beq_eq_false_iff_ne.mpr c9
      have c9b1 : (a0 != 60) = true := bne_iff_ne.mpr c9
      by_cases c15 : a0 = 80
      · rw [if_pos c15] at H
        have c15b0 : (a0 == 80) = true := beq_iff_eq.mpr c15
        have c15b1 : (a0 != 80) = false := bne_eq_false_iff_eq.mpr c15
        clear c15
        obtain ⟨y125, hy125⟩ : ∃ y_ : List Int, y_ = (([0, 4, 8, 14, 22, 32, 46, 62, 80] : List Int)) := ⟨_, rfl⟩
        replace H : (if 0 ≤ a1 then (if a1 < (y125.length : Int) then (some (rd y125 a1)) else (none)) else (none)) = some r := by first | (rw [hy125]; with_reducible exact H) | (have H2_ := (Option.bind_some _ _).symm.trans H; rw [hy125]; with_reducible exact H2_) | (have H2_ := (Option.bind_some _ _).symm.trans H; with_reducible exact H2_) | with_reducible exact H | (rw [hy125]; exact H) | exact H
        have Ny125 := Aside0.mk hy125
        clear hy125
        by_cases c16 : 0 ≤ a1
        · rw [if_pos c16] at H
          have c16b0 : decide (0 ≤ a1) = true := decide_eq_true c16
          clear c16
          by_cases c17 : a1 < (y125.length : Int)
          · rw [if_pos c17] at H
            have c17b0 : decide (a1 < (y125.length : Int)) = true := decide_eq_true c17
            clear c17
            obtain rfl := Option.some.inj H
            go_enter Try.func63, Try.ntmps63
            go_wp2_with (first | ((with_reducible refine gate_dst (N := 20) rfl ?_); refine Kd.R_lit (Kd.int .i64) _ 3 ?hg (N := 20) ?hd (xs := ([0, 4, 8, 14, 22, 32, 46, 62, 80] : List Int)) (inner := [.int .i64 0, .int .i64 4, .int .i64 8, .int .i64 14, .int .i64 22, .int .i64 32, .int .i64 46, .int .i64 62, .int .i64 80]) (ok := fun _ => True) (okp := fun _ => True) ?hr ?hp (fun _ hk => hk) trivial (Below.refl _ _) (Nat.le_refl _) (by simp) ?_; (case hd => rfl); (case hg => rfl); (case hr => first | (go_simp; done) | (go_simp; rfl)); (case hp => exact (Reps.one (show Kd.M (Kd.int .i64) _ _ _ 0 [.int .i64 0] from rfl) (Reps.one (show Kd.M (Kd.int .i64) _ _ _ 4 [.int .i64 4] from rfl) (Reps.one (show Kd.M (Kd.int .i64) _ _ _ 8 [.int .i64 8] from rfl) (Reps.one (show Kd.M (Kd.int .i64) _ _ _ 14 [.int .i64 14] from rfl) (Reps.one (show Kd.M (Kd.int .i64) _ _ _ 22 [.int .i64 22] from rfl) (Reps.one (show Kd.M (Kd.int .i64) _ _ _ 32 [.int .i64 32] from rfl) (Reps.one (show Kd.M (Kd.int .i64) _ _ _ 46 [.int .i64 46] from rfl) (Reps.one (show Kd.M (Kd.int .i64) _ _ _ 62 [.int .i64 62] from rfl) (Reps.one (show Kd.M (Kd.int .i64) _ _ _ 80 [.int .i64 80] from rfl) (Reps.none _ _))))))))))); intro v126 w18 ho19 hb hg_ hnew_; clear hg_ hnew_; (first | rw [← Ny125.out] at ho19 | (simp only [Int.reduceToNat] at ho19; rw [← Ny125.out] at ho19)); have n0_ := Aside0.mk (Kd.R_lower ho19 (below_size (by repeat (first | (with_reducible first | exact HB.out | apply below_alloc | apply pw_below_drewN | apply below_drew1) | exact HB.out)))); have n1_ := Aside0.mk (below_step (by repeat (first | (with_reducible first | exact HB.out | apply below_alloc | apply pw_below_drewN | apply below_drew1) | exact HB.out)) hb); clear HB; have HO127 := n0_; have HB := n1_; clear n0_ n1_; clear hb ho19; obtain ⟨Ao20, co20, eo20⟩ := Kd.R_slice HO127.out; subst eo20; have p128 : 0 ≤ (a1 : Int) := of_decide_eq_true (by first | (with_reducible assumption) | assumption); have q128 : a1 < (y125.length : Int) := of_decide_eq_true (by first | (with_reducible assumption) | assumption); obtain ⟨ad128, e128, hx128_0⟩ := Kd.at_int (Kd.R_reads' HO127.out).2.2 a1 p128 q128; cases e128; replace p128 := eq_true p128; replace q128 := eq_true q128))
            go_ret
            exact ⟨by first | rfl | (simp [errW_none, errW_some] <;> rfl) | (simp [*, errW_none, errW_some] <;> rfl), by repeat (first | (with_reducible first | exact HB.out | apply below_alloc | apply pw_below_drewN | apply below_drew1) | exact HB.out)⟩
          · rw [if_neg c17] at H
            exact absurd H (by simp)
        · rw [if_neg c16] at H
          exact absurd H (by simp)
      · rw [if_neg c15] at H
        have c15b0 : (a0 == 80) = false := beq_eq_false_iff_ne.mpr c15
        have c15b1 : (a0 != 80) = true := bne_iff_ne.mpr c15
        obtain ⟨y129, hy129⟩ : ∃ y_ : List Int, y_ = (([0, 6, 12, 21, 33, 48, 69, 93, 120] : List Int)) := ⟨_, rfl⟩
        replace H : (if 0 ≤ a1 then (if a1 < (y129.length : Int) then (some (rd y129 a1)) else (none)) else (none)) = some r := by first | (rw [hy129]; with_reducible exact H) | (have H2_ := (Option.bind_some _ _).symm.trans H; rw [hy129]; with_reducible exact H2_) | (have H2_ := (Option.bind_some _ _).symm.trans H; with_reducible exact H2_) | with_reducible exact H | (rw [hy129]; exact H) | exact H
        have Ny129 := Aside0.mk hy129
        clear hy129
        by_cases c21 : 0 ≤ a1
        · rw [if_pos c21] at H
          have c21b0 : decide (0 ≤ a1) = true := decide_eq_true c21
          clear c21
          by_cases c22 : a1 < (y129.length : Int)
          · rw [if_pos c22] at H
            have c22b0 : decide (a1 < (y129.length : Int)) = true := decide_eq_true c22
            clear c22
            obtain rfl := Option.some.inj H
            go_enter Try.func63, Try.ntmps63
            go_wp2_with (first | ((with_reducible refine gate_dst (N := 24) rfl ?_); refine Kd.R_lit (Kd.int .i64) _ 3 ?hg (N := 24) ?hd (xs := ([0, 6, 12, 21, 33, 48, 69, 93, 120] : List Int)) (inner := [.int .i64 0, .int .i64 6, .int .i64 12, .int .i64 21, .int .i64 33, .int .i64 48, .int .i64 69, .int .i64 93, .int .i64 120]) (ok := fun _ => True) (okp := fun _ => True) ?hr ?hp (fun _ hk => hk) trivial (Below.refl _ _) (Nat.le_refl _) (by simp) ?_; (case hd => rfl); (case hg => rfl); (case hr => first | (go_simp; done) | (go_simp; rfl)); (case hp => exact (Reps.one (show Kd.M (Kd.int .i64) _ _ _ 0 [.int .i64 0] from rfl) (Reps.one (show Kd.M (Kd.int .i64) _ _ _ 6 [.int .i64 6] from rfl) (Reps.one (show Kd.M (Kd.int .i64) _ _ _ 12 [.int .i64 12] from rfl) (Reps.one (show Kd.M (Kd.int .i64) _ _ _ 21 [.int .i64 21] from rfl) (Reps.one (show Kd.M (Kd.int .i64) _ _ _ 33 [.int .i64 33] from rfl) (Reps.one (show Kd.M (Kd.int .i64) _ _ _ 48 [.int .i64 48] from rfl) (Reps.one (show Kd.M (Kd.int .i64) _ _ _ 69 [.int .i64 69] from rfl) (Reps.one (show Kd.M (Kd.int .i64) _ _ _ 93 [.int .i64 93] from rfl) (Reps.one (show Kd.M (Kd.int .i64) _ _ _ 120 [.int .i64 120] from rfl) (Reps.none _ _))))))))))); intro v130 w23 ho24 hb hg_ hnew_; clear hg_ hnew_; (first | rw [← Ny129.out] at ho24 | (simp only [Int.reduceToNat] at ho24; rw [← Ny129.out] at ho24)); have n0_ := Aside0.mk (Kd.R_lower ho24 (below_size (by repeat (first | (with_reducible first | exact HB.out | apply below_alloc | apply pw_below_drewN | apply below_drew1) | exact HB.out)))); have n1_ := Aside0.mk (below_step (by repeat (first | (with_reducible first | exact HB.out | apply below_alloc | apply pw_below_drewN | apply below_drew1) | exact HB.out)) hb); clear HB; have HO131 := n0_; have HB := n1_; clear n0_ n1_; clear hb ho24; obtain ⟨Ao25, co25, eo25⟩ := Kd.R_slice HO131.out; subst eo25; have p132 : 0 ≤ (a1 : Int) := of_decide_eq_true (by first | (with_reducible assumption) | assumption); have q132 : a1 < (y129.length : Int) := of_decide_eq_true (by first | (with_reducible assumption) | assumption); obtain ⟨ad132, e132, hx132_0⟩ := Kd.at_int (Kd.R_reads' HO131.out).2.2 a1 p132 q132; cases e132; replace p132 := eq_true p132; replace q132 := eq_true q132))
            go_ret
            exact ⟨by first | rfl | (simp [errW_none, errW_some] <;> rfl) | (simp [*, errW_none, errW_some] <;> rfl), by repeat (first | (with_reducible first | exact HB.out | apply below_alloc | apply pw_below_drewN | apply below_drew1) | exact HB.out)⟩
          · rw [if_neg c22] at H
            exact absurd H (by simp)
        · rw [if_neg c21] at H
          exact absurd H (by simp)

/-! ### psalteryref15_Band: function 76 -/
def psalteryref15_Band.l0 : Nat → Int → Int → Int → Option (Int)
  | 0, _, _, _ => none
  | k + 1, x0, x1, x5 => (psalteryref15_Edge.f x0 (wrap64 (x5 + 1))).bind fun t133 => (if t133 ≤ x1 then (psalteryref15_Band.l0 k x0 x1 (wrap64 (x5 + 1))) else (some x5))
def psalteryref15_Band.f (k : Nat) (a0 : Int) (a1 : Int) : Option (Int) := psalteryref15_Band.l0 k a0 a1 0
theorem psalteryref15_Band.mono_l : ∀ k, (∀ y0 y1 y2, LeO (psalteryref15_Band.l0 k y0 y1 y2) (psalteryref15_Band.l0 (k + 1) y0 y1 y2))
  | 0 => fun _ _ _ r h => by simp [psalteryref15_Band.l0] at h
  | k + 1 => by
    have ih0 := psalteryref15_Band.mono_l k
    · intro y0 y1 y2
      unfold psalteryref15_Band.l0
      repeat' first
      | (with_reducible exact ih0 _ _ _)
      | (with_reducible exact LeO.refl _)
      | (with_reducible exact LeO.none _)
      | (with_reducible refine LeO.ite ?_ ?_)
      | (with_reducible refine LeO.bind ?_ (fun _ => ?_))
      | exact ih0 _ _ _
      | exact LeO.none _
      | refine LeO.ite ?_ ?_
      | refine LeO.bind ?_ (fun _ => ?_)
theorem psalteryref15_Band.mono : ∀ a0 a1 k, LeO (psalteryref15_Band.f k a0 a1) (psalteryref15_Band.f (k + 1) a0 a1) := by
  intro a0 a1 k
  have ih0 := psalteryref15_Band.mono_l k
  unfold psalteryref15_Band.f
  repeat' first
      | (with_reducible exact ih0 _ _ _)
      | (with_reducible exact LeO.refl _)
      | (with_reducible exact LeO.none _)
      | (with_reducible refine LeO.ite ?_ ?_)
      | (with_reducible refine LeO.bind ?_ (fun _ => ?_))
      | exact ih0 _ _ _
      | exact LeO.none _
      | refine LeO.ite ?_ ?_
      | refine LeO.bind ?_ (fun _ => ?_)
set_option maxHeartbeats 8000000 in
set_option maxRecDepth 100000 in
theorem psalteryref15_Band.calls (k : Nat) (a0 : Int) (a1 : Int) (r : Int) (w : World) (h : psalteryref15_Band.f k a0 a1 = some r) :
    Calls Try.prog 76 #[.int .i64 a0, .int .i64 a1] w fun e w' => e = .returned (.int .i64 r) ∧ Below w.heap.size w w' := by
  have HB := Aside0.mk (Below.refl w.heap.size w)
  have H : (psalteryref15_Band.l0 k a0 a1 0) = some r := h
  clear h
  have H' := Aside0.mk H
  clear H
  go_enter Try.func76, Try.ntmps76
  go_wp2
  go_loopg [5] k (fun kq v5 w' => ∃ (x5_1 : Int), v5 = .int .i64 x5_1 ∧ Aside0 (psalteryref15_Band.l0 kq a0 a1 x5_1 = some r) ∧ Aside0 (kq ≤ k) ∧ Aside0 (Below w.heap.size w w'))
  case atStart => exact ⟨(0), (by first | rfl | (simp; done) | (simp [*]; done)), H', ⟨Nat.le_refl _⟩, ⟨by repeat (first | (with_reducible first | exact HB.out | apply below_alloc | apply pw_below_drewN | apply below_drew1) | exact HB.out)⟩⟩
  case round =>
    clear H'
    try clear p2
    obtain ⟨x5_1, rfl, HA, HK1, HB⟩ := hrel
    cases gk with
    | zero => exact absurd HA.out (by simp [psalteryref15_Band.l0])
    | succ k1 =>
      have H := HA.out
      clear HA
      simp only [psalteryref15_Band.l0] at H
      replace H := Option.bind_eq_some_iff.mp H
      obtain ⟨t133, A30, H⟩ := H
      replace H : (if t133 ≤ a1 then (psalteryref15_Band.l0 k1 a0 a1 (wrap64 (x5_1 + 1))) else (some x5_1)) = some r := H
      have A3 := Aside0.mk A30
      clear A30
      by_cases c4 : t133 ≤ a1
      · rw [if_pos c4] at H
        have c4b0 : decide (t133 ≤ a1) = true := decide_eq_true c4
        clear c4
        have H' := Aside0.mk H
        clear H
        go_wp2_with (first | ((with_reducible refine gate_callee (f := 63) rfl ?_); refine goesL_ (some 9) rfl rfl Try.func63 (by kernel_rfl) rfl #[.int .i64 a0, .int .i64 (wrap64 (x5_1 + 1))] rfl (by (try simp only [List.map_toArray, List.map_cons, List.map_nil]); first | done | rfl | (simp only [List.length_drop, List.length_take]; rfl)) ?_; (with_reducible refine (psalteryref15_Edge.calls a0 (wrap64 (x5_1 + 1)) t133 _ A3.out).mono ?_); rintro e w5 ⟨rfl, hb⟩; refine ⟨_, rfl, ?_⟩; have n0_ := Aside0.mk (below_step (by repeat (first | (with_reducible first | exact HB.out | apply below_alloc | apply pw_below_drewN | apply below_drew1) | exact HB.out)) hb); clear HB; have HB := n0_; clear n0_; (try clear hb); (try clear hb2); (try clear hk); (try clear hi)))
        go_roundg k1
        case measure => have := HK1.out; omega
        case rel => exact ⟨(wrap64 (x5_1 + 1)), (by first | rfl | (simp; done) | (simp [*]; done)), H', ⟨by have := HK1.out; omega⟩, ⟨by repeat (first | (with_reducible first | exact HB.out | apply below_alloc | apply pw_below_drewN | apply below_drew1) | exact HB.out)⟩⟩
      · rw [if_neg c4] at H
        have c4b0 : decide (t133 ≤ a1) = false := decide_eq_false c4
        clear c4
        obtain rfl := Option.some.inj H
        go_wp2_with (first | ((with_reducible refine gate_callee (f := 63) rfl ?_); refine goesL_ (some 9) rfl rfl Try.func63 (by kernel_rfl) rfl #[.int .i64 a0, .int .i64 (wrap64 (x5_1 + 1))] rfl (by (try simp only [List.map_toArray, List.map_cons, List.map_nil]); first | done | rfl | (simp only [List.length_drop, List.length_take]; rfl)) ?_; (with_reducible refine (psalteryref15_Edge.calls a0 (wrap64 (x5_1 + 1)) t133 _ A3.out).mono ?_); rintro e w6 ⟨rfl, hb⟩; refine ⟨_, rfl, ?_⟩; have n0_ := Aside0.mk (below_step (by repeat (first | (with_reducible first | exact HB.out | apply below_alloc | apply pw_below_drewN | apply below_drew1) | exact HB.out)) hb); clear HB; have HB := n0_; clear n0_; (try clear hb); (try clear hb2); (try clear hk); (try clear hi)))
        go_ret
        exact ⟨by first | rfl | (simp [errW_none, errW_some] <;> rfl) | (simp [*, errW_none, errW_some] <;> rfl), by repeat (first | (with_reducible first | exact HB.out | apply below_alloc | apply pw_below_drewN | apply below_drew1) | exact HB.out)⟩

end Go.Proofs.Ytblehkoonajofaa.PShape
