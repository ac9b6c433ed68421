/- Contracts of the functions that the law Band reaches: each Go function as a Lean function, and that the Go text comes to it. Written by programs (wip/tools), out of the program's own loaded form. -/
import Derived.Test.YtgmgdbcfgbgnlaaPBandx0
import Derived.WalkSpells
import Derived.StillTailTactics
import Derived.Lib.SliceRun
namespace Go.Proofs.Ytgmgdbcfgbgnlaa.PBand
open Go.RowKit Go.Proofs.YtgmgdbcfgbgnlaaW.PrintWords Go.Proofs.YtgmgdbcfgbgnlaaW.PrintLast Go.Proofs.YtgmgdbcfgbgnlaaW.PrintMore
attribute [local go_sem] max2_int min2_int max_two min_two max_three min_three max_four min_four   -- for this text's walks alone
set_option linter.unusedVariables false
set_option linter.unusedSimpArgs false

/-! ### band_edges: function 54: the edges of a length, an array -/
def edgesV (n : Int) : List Int := if n = 40 then [0, 2, 4, 7, 11, 16, 23, 31, 40] else if n = 60 then [0, 3, 6, 10, 16, 24, 34, 46, 60] else if n = 80 then [0, 4, 8, 14, 22, 32, 46, 62, 80] else if n = 120 then [0, 6, 12, 21, 33, 48, 69, 93, 120] else []
theorem edges_cases (n : Int) : n = 40 ∨ n = 60 ∨ n = 80 ∨ n = 120 ∨ ((n ≠ 40 ∧ n ≠ 60 ∧ n ≠ 80 ∧ n ≠ 120) ∧ edgesV n = []) := by
  by_cases a : n = 40
  · exact .inl a
  · by_cases b : n = 60
    · exact .inr (.inl b)
    · by_cases c : n = 80
      · exact .inr (.inr (.inl c))
      · by_cases d : n = 120
        · exact .inr (.inr (.inr (.inl d)))
        · exact .inr (.inr (.inr (.inr ⟨⟨a, b, c, d⟩, by unfold edgesV; rw [if_neg a, if_neg b, if_neg c, if_neg d]⟩)))
theorem band_edges.calls40 (w : World) : Calls Try.prog 54 #[.int .i64 40] w fun e w' => e = .returned (.tuple #[.agg #[.int .i64 0, .int .i64 2, .int .i64 4, .int .i64 7, .int .i64 11, .int .i64 16, .int .i64 23, .int .i64 31, .int .i64 40], .bool true]) ∧ Below w.heap.size w w' := by
  go_enter Try.func54, Try.ntmps54
  go_wp2
  exact bodyPost_ret (v := .tuple #[.agg #[.int .i64 0, .int .i64 2, .int .i64 4, .int .i64 7, .int .i64 11, .int .i64 16, .int .i64 23, .int .i64 31, .int .i64 40], .bool true]) (by simp [results, Try.results54, go_sem]) rfl ⟨rfl, below_alloc (Below.refl _ _) _⟩
theorem band_edges.calls60 (w : World) : Calls Try.prog 54 #[.int .i64 60] w fun e w' => e = .returned (.tuple #[.agg #[.int .i64 0, .int .i64 3, .int .i64 6, .int .i64 10, .int .i64 16, .int .i64 24, .int .i64 34, .int .i64 46, .int .i64 60], .bool true]) ∧ Below w.heap.size w w' := by
  go_enter Try.func54, Try.ntmps54
  go_wp2
  exact bodyPost_ret (v := .tuple #[.agg #[.int .i64 0, .int .i64 3, .int .i64 6, .int .i64 10, .int .i64 16, .int .i64 24, .int .i64 34, .int .i64 46, .int .i64 60], .bool true]) (by simp [results, Try.results54, go_sem]) rfl ⟨rfl, below_alloc (Below.refl _ _) _⟩
theorem band_edges.calls80 (w : World) : Calls Try.prog 54 #[.int .i64 80] w fun e w' => e = .returned (.tuple #[.agg #[.int .i64 0, .int .i64 4, .int .i64 8, .int .i64 14, .int .i64 22, .int .i64 32, .int .i64 46, .int .i64 62, .int .i64 80], .bool true]) ∧ Below w.heap.size w w' := by
  go_enter Try.func54, Try.ntmps54
  go_wp2
  exact bodyPost_ret (v := .tuple #[.agg #[.int .i64 0, .int .i64 4, .int .i64 8, .int .i64 14, .int .i64 22, .int .i64 32, .int .i64 46, .int .i64 62, .int .i64 80], .bool true]) (by simp [results, Try.results54, go_sem]) rfl ⟨rfl, below_alloc (Below.refl _ _) _⟩
theorem band_edges.calls120 (w : World) : Calls Try.prog 54 #[.int .i64 120] w fun e w' => e = .returned (.tuple #[.agg #[.int .i64 0, .int .i64 6, .int .i64 12, .int .i64 21, .int .i64 33, .int .i64 48, .int .i64 69, .int .i64 93, .int .i64 120], .bool true]) ∧ Below w.heap.size w w' := by
  go_enter Try.func54, Try.ntmps54
  go_wp2
  exact bodyPost_ret (v := .tuple #[.agg #[.int .i64 0, .int .i64 6, .int .i64 12, .int .i64 21, .int .i64 33, .int .i64 48, .int .i64 69, .int .i64 93, .int .i64 120], .bool true]) (by simp [results, Try.results54, go_sem]) rfl ⟨rfl, below_alloc (Below.refl _ _) _⟩
theorem band_edges.callsNo (n : Int) (h : n ≠ 40 ∧ n ≠ 60 ∧ n ≠ 80 ∧ n ≠ 120) (w : World) : Calls Try.prog 54 #[.int .i64 n] w fun e w' => e = .returned (.tuple #[.agg #[.int .i64 0, .int .i64 0, .int .i64 0, .int .i64 0, .int .i64 0, .int .i64 0, .int .i64 0, .int .i64 0, .int .i64 0], .bool false]) ∧ Below w.heap.size w w' := by
  obtain ⟨h1, h2, h3, h4⟩ := h
  have t1 : (n == 40) = false := beq_eq_false_iff_ne.mpr h1
  have t2 : (n == 60) = false := beq_eq_false_iff_ne.mpr h2
  have t3 : (n == 80) = false := beq_eq_false_iff_ne.mpr h3
  have t4 : (n == 120) = false := beq_eq_false_iff_ne.mpr h4
  clear h1 h2 h3 h4
  go_enter Try.func54, Try.ntmps54
  go_wp2
  exact bodyPost_ret (v := .tuple #[.agg #[.int .i64 0, .int .i64 0, .int .i64 0, .int .i64 0, .int .i64 0, .int .i64 0, .int .i64 0, .int .i64 0, .int .i64 0], .bool false]) (by simp [results, Try.results54, go_sem]) rfl ⟨rfl, below_alloc (Below.refl _ _) _⟩
/-! ### band_Edges: function 31 -/
def band_Edges.f (a0 : Int) : Option (List Int × Int) := some (edgesV a0, if edgesV a0 = [] then 1 else 0)
theorem edges_row (W : World) (base : Nat) (hb : base ≤ W.heap.size) (xs : List Int) (hm : xs.length ≤ 9223372036854775807) : Kd.R (Kd.int .i64) 85 (W.alloc (.cells (xs.map (Value.int .i64)).toArray 85)) base (fun _ => True) (.slice (some ⟨W.heap.size, 0, none⟩) xs.length xs.length) xs := by
  refine Kd.R_of_own ?_ (fun _ _ => trivial)
  have h := World.ownsRow_lit (base := base) (e := 85) (size := 1) W (xs.map (Value.int .i64)).toArray xs.length hb (by simpa [maxLen] using hm) (by simp)
  simpa [encs] using h
theorem band_Edges.calls40 (w : World) :
    Calls Try.prog 31 #[.int .i64 40] w fun e w' => ∃ v0_ : Value, e = .returned (.tuple #[v0_, .int .i64 0]) ∧ Kd.R (Kd.int .i64) 85 w' w.heap.size (fun _ => True) v0_ [0, 2, 4, 7, 11, 16, 23, 31, 40] ∧ Below w.heap.size w w' := by
  go_enter Try.func31, Try.ntmps31
  go_wp2_with (first | (go_at_call 54; refine (band_edges.calls40 _).mono ?_; rintro e w1 ⟨rfl, hb⟩))
  go_ret2
  exact ⟨_, rfl, edges_row w1 _ (by assumption : Below w.heap.size w w1).size [0, 2, 4, 7, 11, 16, 23, 31, 40] (by decide), below_alloc (by assumption) _⟩
theorem band_Edges.calls60 (w : World) :
    Calls Try.prog 31 #[.int .i64 60] w fun e w' => ∃ v0_ : Value, e = .returned (.tuple #[v0_, .int .i64 0]) ∧ Kd.R (Kd.int .i64) 85 w' w.heap.size (fun _ => True) v0_ [0, 3, 6, 10, 16, 24, 34, 46, 60] ∧ Below w.heap.size w w' := by
  go_enter Try.func31, Try.ntmps31
  go_wp2_with (first | (go_at_call 54; refine (band_edges.calls60 _).mono ?_; rintro e w1 ⟨rfl, hb⟩))
  go_ret2
  exact ⟨_, rfl, edges_row w1 _ (by assumption : Below w.heap.size w w1).size [0, 3, 6, 10, 16, 24, 34, 46, 60] (by decide), below_alloc (by assumption) _⟩
theorem band_Edges.calls80 (w : World) :
    Calls Try.prog 31 #[.int .i64 80] w fun e w' => ∃ v0_ : Value, e = .returned (.tuple #[v0_, .int .i64 0]) ∧ Kd.R (Kd.int .i64) 85 w' w.heap.size (fun _ => True) v0_ [0, 4, 8, 14, 22, 32, 46, 62, 80] ∧ Below w.heap.size w w' := by
  go_enter Try.func31, Try.ntmps31
  go_wp2_with (first | (go_at_call 54; refine (band_edges.calls80 _).mono ?_; rintro e w1 ⟨rfl, hb⟩))
  go_ret2
  exact ⟨_, rfl, edges_row w1 _ (by assumption : Below w.heap.size w w1).size [0, 4, 8, 14, 22, 32, 46, 62, 80] (by decide), below_alloc (by assumption) _⟩
theorem band_Edges.calls120 (w : World) :
    Calls Try.prog 31 #[.int .i64 120] w fun e w' => ∃ v0_ : Value, e = .returned (.tuple #[v0_, .int .i64 0]) ∧ Kd.R (Kd.int .i64) 85 w' w.heap.size (fun _ => True) v0_ [0, 6, 12, 21, 33, 48, 69, 93, 120] ∧ Below w.heap.size w w' := by
  go_enter Try.func31, Try.ntmps31
  go_wp2_with (first | (go_at_call 54; refine (band_edges.calls120 _).mono ?_; rintro e w1 ⟨rfl, hb⟩))
  go_ret2
  exact ⟨_, rfl, edges_row w1 _ (by assumption : Below w.heap.size w w1).size [0, 6, 12, 21, 33, 48, 69, 93, 120] (by decide), below_alloc (by assumption) _⟩
theorem band_Edges.calls (a0 : Int) (r1 : List Int) (r2 : Int) (w : World) (h : band_Edges.f a0 = some (r1, r2)) :
    Calls Try.prog 31 #[.int .i64 a0] w fun e w' => ∃ v0_ : Value, e = .returned (.tuple #[v0_, .int .i64 r2]) ∧ Kd.R (Kd.int .i64) 85 w' w.heap.size (fun _ => True) v0_ r1 ∧ Below w.heap.size w w' := by
  unfold band_Edges.f at h
  rcases edges_cases a0 with rfl | rfl | rfl | rfl | ⟨hn, he⟩
  · simp [edgesV] at h; obtain ⟨rfl, rfl⟩ := h; exact band_Edges.calls40 w
  · simp [edgesV] at h; obtain ⟨rfl, rfl⟩ := h; exact band_Edges.calls60 w
  · simp [edgesV] at h; obtain ⟨rfl, rfl⟩ := h; exact band_Edges.calls80 w
  · simp [edgesV] at h; obtain ⟨rfl, rfl⟩ := h; exact band_Edges.calls120 w
  · rw [he] at h; simp at h; obtain ⟨rfl, rfl⟩ := h
    clear he
    go_enter Try.func31, Try.ntmps31
    go_wp2_with (first | (go_at_call 54; refine (band_edges.callsNo _ hn _).mono ?_; rintro e w1 ⟨rfl, hb⟩))
    go_ret2
    exact ⟨_, rfl, Kd.R_nil _ _ _ _ _, below_alloc (by assumption) _⟩
/-! ### band_Kept: function 32 -/
def band_Kept.f (a0 : Int) (a1 : Int) : Option (Int × Int) := if edgesV a0 = [] ∨ a1 < 0 ∨ a1 > 3 then some (0, 1) else some (rd (edgesV a0) (2 * a1 + 2), 0)
theorem band_Kept.calls40_0 (w : World) : Calls Try.prog 32 #[.int .i64 40, .int .i64 0] w fun e w' => e = .returned (.tuple #[.int .i64 4, .int .i64 0]) ∧ Below w.heap.size w w' := by
  go_enter Try.func32, Try.ntmps32
  go_wp2_with (first | (go_at_call 54; refine (band_edges.calls40 _).mono ?_; rintro e w1 ⟨rfl, hb⟩))
  go_ret2
  exact ⟨rfl, below_alloc (by assumption) _⟩
theorem band_Kept.calls40_1 (w : World) : Calls Try.prog 32 #[.int .i64 40, .int .i64 1] w fun e w' => e = .returned (.tuple #[.int .i64 11, .int .i64 0]) ∧ Below w.heap.size w w' := by
  go_enter Try.func32, Try.ntmps32
  go_wp2_with (first | (go_at_call 54; refine (band_edges.calls40 _).mono ?_; rintro e w1 ⟨rfl, hb⟩))
  go_ret2
  exact ⟨rfl, below_alloc (by assumption) _⟩
theorem band_Kept.calls40_2 (w : World) : Calls Try.prog 32 #[.int .i64 40, .int .i64 2] w fun e w' => e = .returned (.tuple #[.int .i64 23, .int .i64 0]) ∧ Below w.heap.size w w' := by
  go_enter Try.func32, Try.ntmps32
  go_wp2_with (first | (go_at_call 54; refine (band_edges.calls40 _).mono ?_; rintro e w1 ⟨rfl, hb⟩))
  go_ret2
  exact ⟨rfl, below_alloc (by assumption) _⟩
theorem band_Kept.calls40_3 (w : World) : Calls Try.prog 32 #[.int .i64 40, .int .i64 3] w fun e w' => e = .returned (.tuple #[.int .i64 40, .int .i64 0]) ∧ Below w.heap.size w w' := by
  go_enter Try.func32, Try.ntmps32
  go_wp2_with (first | (go_at_call 54; refine (band_edges.calls40 _).mono ?_; rintro e w1 ⟨rfl, hb⟩))
  go_ret2
  exact ⟨rfl, below_alloc (by assumption) _⟩
theorem band_Kept.calls40_x (a1 : Int) (h : a1 < 0 ∨ a1 > 3) (w : World) : Calls Try.prog 32 #[.int .i64 40, .int .i64 a1] w fun e w' => e = .returned (.tuple #[.int .i64 0, .int .i64 1]) ∧ Below w.heap.size w w' := by
  rcases h with h | h
  · have t : decide (a1 < 0) = true := decide_eq_true h
    clear h
    go_enter Try.func32, Try.ntmps32
    go_wp2_with (first | (go_at_call 54; refine (band_edges.calls40 _).mono ?_; rintro e w1 ⟨rfl, hb⟩))
    go_ret2
    exact ⟨rfl, below_alloc (by assumption) _⟩
  · have t : decide (a1 < 0) = false := decide_eq_false (by omega)
    have t2 : decide (3 < a1) = true := decide_eq_true h
    clear h
    go_enter Try.func32, Try.ntmps32
    go_wp2_with (first | (go_at_call 54; refine (band_edges.calls40 _).mono ?_; rintro e w1 ⟨rfl, hb⟩))
    go_ret2
    exact ⟨rfl, below_alloc (by assumption) _⟩
theorem band_Kept.calls60_0 (w : World) : Calls Try.prog 32 #[.int .i64 60, .int .i64 0] w fun e w' => e = .returned (.tuple #[.int .i64 6, .int .i64 0]) ∧ Below w.heap.size w w' := by
  go_enter Try.func32, Try.ntmps32
  go_wp2_with (first | (go_at_call 54; refine (band_edges.calls60 _).mono ?_; rintro e w1 ⟨rfl, hb⟩))
  go_ret2
  exact ⟨rfl, below_alloc (by assumption) _⟩
theorem band_Kept.calls60_1 (w : World) : Calls Try.prog 32 #[.int .i64 60, .int .i64 1] w fun e w' => e = .returned (.tuple #[.int .i64 16, .int .i64 0]) ∧ Below w.heap.size w w' := by
  go_enter Try.func32, Try.ntmps32
  go_wp2_with (first | (go_at_call 54; refine (band_edges.calls60 _).mono ?_; rintro e w1 ⟨rfl, hb⟩))
  go_ret2
  exact ⟨rfl, below_alloc (by assumption) _⟩
theorem band_Kept.calls60_2 (w : World) : Calls Try.prog 32 #[.int .i64 60, .int .i64 2] w fun e w' => e = .returned (.tuple #[.int .i64 34, .int .i64 0]) ∧ Below w.heap.size w w' := by
  go_enter Try.func32, Try.ntmps32
  go_wp2_with (first | (go_at_call 54; refine (band_edges.calls60 _).mono ?_; rintro e w1 ⟨rfl, hb⟩))
  go_ret2
  exact ⟨rfl, below_alloc (by assumption) _⟩
theorem band_Kept.calls60_3 (w : World) : Calls Try.prog 32 #[.int .i64 60, .int .i64 3] w fun e w' => e = .returned (.tuple #[.int .i64 60, .int .i64 0]) ∧ Below w.heap.size w w' := by
  go_enter Try.func32, Try.ntmps32
  go_wp2_with (first | (go_at_call 54; refine (band_edges.calls60 _).mono ?_; rintro e w1 ⟨rfl, hb⟩))
  go_ret2
  exact ⟨rfl, below_alloc (by assumption) _⟩
theorem band_Kept.calls60_x (a1 : Int) (h : a1 < 0 ∨ a1 > 3) (w : World) : Calls Try.prog 32 #[.int .i64 60, .int .i64 a1] w fun e w' => e = .returned (.tuple #[.int .i64 0, .int .i64 1]) ∧ Below w.heap.size w w' := by
  rcases h with h | h
  · have t : decide (a1 < 0) = true := decide_eq_true h
    clear h
    go_enter Try.func32, Try.ntmps32
    go_wp2_with (first | (go_at_call 54; refine (band_edges.calls60 _).mono ?_; rintro e w1 ⟨rfl, hb⟩))
    go_ret2
    exact ⟨rfl, below_alloc (by assumption) _⟩
  · have t : decide (a1 < 0) = false := decide_eq_false (by omega)
    have t2 : decide (3 < a1) = true := decide_eq_true h
    clear h
    go_enter Try.func32, Try.ntmps32
    go_wp2_with (first | (go_at_call 54; refine (band_edges.calls60 _).mono ?_; rintro e w1 ⟨rfl, hb⟩))
    go_ret2
    exact ⟨rfl, below_alloc (by assumption) _⟩
theorem band_Kept.calls80_0 (w : World) : Calls Try.prog 32 #[.int .i64 80, .int .i64 0] w fun e w' => e = .returned (.tuple #[.int .i64 8, .int .i64 0]) ∧ Below w.heap.size w w' := by
  go_enter Try.func32, Try.ntmps32
  go_wp2_with (first | (go_at_call 54; refine (band_edges.calls80 _).mono ?_; rintro e w1 ⟨rfl, hb⟩))
  go_ret2
  exact ⟨rfl, below_alloc (by assumption) _⟩
theorem band_Kept.calls80_1 (w : World) : Calls Try.prog 32 #[.int .i64 80, .int .i64 1] w fun e w' => e = .returned (.tuple #[.int .i64 22, .int .i64 0]) ∧ Below w.heap.size w w' := by
  go_enter Try.func32, Try.ntmps32
  go_wp2_with (first | (go_at_call 54; refine (band_edges.calls80 _).mono ?_; rintro e w1 ⟨rfl, hb⟩))
  go_ret2
  exact ⟨rfl, below_alloc (by assumption) _⟩
theorem band_Kept.calls80_2 (w : World) : Calls Try.prog 32 #[.int .i64 80, .int .i64 2] w fun e w' => e = .returned (.tuple #[.int .i64 46, .int .i64 0]) ∧ Below w.heap.size w w' := by
  go_enter Try.func32, Try.ntmps32
  go_wp2_with (first | (go_at_call 54; refine (band_edges.calls80 _).mono ?_; rintro e w1 ⟨rfl, hb⟩))
  go_ret2
  exact ⟨rfl, below_alloc (by assumption) _⟩
theorem band_Kept.calls80_3 (w : World) : Calls Try.prog 32 #[.int .i64 80, .int .i64 3] w fun e w' => e = .returned (.tuple #[.int .i64 80, .int .i64 0]) ∧ Below w.heap.size w w' := by
  go_enter Try.func32, Try.ntmps32
  go_wp2_with (first | (go_at_call 54; refine (band_edges.calls80 _).mono ?_; rintro e w1 ⟨rfl, hb⟩))
  go_ret2
  exact ⟨rfl, below_alloc (by assumption) _⟩
theorem band_Kept.calls80_x (a1 : Int) (h : a1 < 0 ∨ a1 > 3) (w : World) : Calls Try.prog 32 #[.int .i64 80, .int .i64 a1] w fun e w' => e = .returned (.tuple #[.int .i64 0, .int .i64 1]) ∧ Below w.heap.size w w' := by
  rcases h with h | h
  · have t : decide (a1 < 0) = true := decide_eq_true h
    clear h
    go_enter Try.func32, Try.ntmps32
    go_wp2_with (first | (go_at_call 54; refine (band_edges.calls80 _).mono ?_; rintro e w1 ⟨rfl, hb⟩))
    go_ret2
    exact ⟨rfl, below_alloc (by assumption) _⟩
  · have t : decide (a1 < 0) = false := decide_eq_false (by omega)
    have t2 : decide (3 < a1) = true := decide_eq_true h
    clear h
    go_enter Try.func32, Try.ntmps32
    go_wp2_with (first | (go_at_call 54; refine (band_edges.calls80 _).mono ?_; rintro e w1 ⟨rfl, hb⟩))
    go_ret2
    exact ⟨rfl, below_alloc (by assumption) _⟩
theorem band_Kept.calls120_0 (w : World) : Calls Try.prog 32 #[.int .i64 120, .int .i64 0] w fun e w' => e = .returned (.tuple #[.int .i64 12, .int .i64 0]) ∧ Below w.heap.size w w' := by
  go_enter Try.func32, Try.ntmps32
  go_wp2_with (first | (go_at_call 54; refine (band_edges.calls120 _).mono ?_; rintro e w1 ⟨rfl, hb⟩))
  go_ret2
  exact ⟨rfl, below_alloc (by assumption) _⟩
theorem band_Kept.calls120_1 (w : World) : Calls Try.prog 32 #[.int .i64 120, .int .i64 1] w fun e w' => e = .returned (.tuple #[.int .i64 33, .int .i64 0]) ∧ Below w.heap.size w w' := by
  go_enter Try.func32, Try.ntmps32
  go_wp2_with (first | (go_at_call 54; refine (band_edges.calls120 _).mono ?_; rintro e w1 ⟨rfl, hb⟩))
  go_ret2
  exact ⟨rfl, below_alloc (by assumption) _⟩
theorem band_Kept.calls120_2 (w : World) : Calls Try.prog 32 #[.int .i64 120, .int .i64 2] w fun e w' => e = .returned (.tuple #[.int .i64 69, .int .i64 0]) ∧ Below w.heap.size w w' := by
  go_enter Try.func32, Try.ntmps32
  go_wp2_with (first | (go_at_call 54; refine (band_edges.calls120 _).mono ?_; rintro e w1 ⟨rfl, hb⟩))
  go_ret2
  exact ⟨rfl, below_alloc (by assumption) _⟩
theorem band_Kept.calls120_3 (w : World) : Calls Try.prog 32 #[.int .i64 120, .int .i64 3] w fun e w' => e = .returned (.tuple #[.int .i64 120, .int .i64 0]) ∧ Below w.heap.size w w' := by
  go_enter Try.func32, Try.ntmps32
  go_wp2_with (first | (go_at_call 54; refine (band_edges.calls120 _).mono ?_; rintro e w1 ⟨rfl, hb⟩))
  go_ret2
  exact ⟨rfl, below_alloc (by assumption) _⟩
theorem band_Kept.calls120_x (a1 : Int) (h : a1 < 0 ∨ a1 > 3) (w : World) : Calls Try.prog 32 #[.int .i64 120, .int .i64 a1] w fun e w' => e = .returned (.tuple #[.int .i64 0, .int .i64 1]) ∧ Below w.heap.size w w' := by
  rcases h with h | h
  · have t : decide (a1 < 0) = true := decide_eq_true h
    clear h
    go_enter Try.func32, Try.ntmps32
    go_wp2_with (first | (go_at_call 54; refine (band_edges.calls120 _).mono ?_; rintro e w1 ⟨rfl, hb⟩))
    go_ret2
    exact ⟨rfl, below_alloc (by assumption) _⟩
  · have t : decide (a1 < 0) = false := decide_eq_false (by omega)
    have t2 : decide (3 < a1) = true := decide_eq_true h
    clear h
    go_enter Try.func32, Try.ntmps32
    go_wp2_with (first | (go_at_call 54; refine (band_edges.calls120 _).mono ?_; rintro e w1 ⟨rfl, hb⟩))
    go_ret2
    exact ⟨rfl, below_alloc (by assumption) _⟩
theorem band_Kept.calls (a0 : Int) (a1 : Int) (r1 : Int) (r2 : Int) (w : World) (h : band_Kept.f a0 a1 = some (r1, r2)) :
    Calls Try.prog 32 #[.int .i64 a0, .int .i64 a1] w fun e w' => e = .returned (.tuple #[.int .i64 r1, .int .i64 r2]) ∧ Below w.heap.size w w' := by
  unfold band_Kept.f at h
  have hw : (a1 < 0 ∨ a1 > 3) ∨ a1 = 0 ∨ a1 = 1 ∨ a1 = 2 ∨ a1 = 3 := by omega
  rcases edges_cases a0 with rfl | rfl | rfl | rfl | ⟨hn, he⟩
  · rcases hw with hw | rfl | rfl | rfl | rfl
    · rw [if_pos (.inr hw)] at h; simp at h; obtain ⟨rfl, rfl⟩ := h; exact band_Kept.calls40_x a1 hw w
    · simp [edgesV, rd] at h; obtain ⟨rfl, rfl⟩ := h; exact band_Kept.calls40_0 w
    · simp [edgesV, rd] at h; obtain ⟨rfl, rfl⟩ := h; exact band_Kept.calls40_1 w
    · simp [edgesV, rd] at h; obtain ⟨rfl, rfl⟩ := h; exact band_Kept.calls40_2 w
    · simp [edgesV, rd] at h; obtain ⟨rfl, rfl⟩ := h; exact band_Kept.calls40_3 w
  · rcases hw with hw | rfl | rfl | rfl | rfl
    · rw [if_pos (.inr hw)] at h; simp at h; obtain ⟨rfl, rfl⟩ := h; exact band_Kept.calls60_x a1 hw w
    · simp [edgesV, rd] at h; obtain ⟨rfl, rfl⟩ := h; exact band_Kept.calls60_0 w
    · simp [edgesV, rd] at h; obtain ⟨rfl, rfl⟩ := h; exact band_Kept.calls60_1 w
    · simp [edgesV, rd] at h; obtain ⟨rfl, rfl⟩ := h; exact band_Kept.calls60_2 w
    · simp [edgesV, rd] at h; obtain ⟨rfl, rfl⟩ := h; exact band_Kept.calls60_3 w
  · rcases hw with hw | rfl | rfl | rfl | rfl
    · rw [if_pos (.inr hw)] at h; simp at h; obtain ⟨rfl, rfl⟩ := h; exact band_Kept.calls80_x a1 hw w
    · simp [edgesV, rd] at h; obtain ⟨rfl, rfl⟩ := h; exact band_Kept.calls80_0 w
    · simp [edgesV, rd] at h; obtain ⟨rfl, rfl⟩ := h; exact band_Kept.calls80_1 w
    · simp [edgesV, rd] at h; obtain ⟨rfl, rfl⟩ := h; exact band_Kept.calls80_2 w
    · simp [edgesV, rd] at h; obtain ⟨rfl, rfl⟩ := h; exact band_Kept.calls80_3 w
  · rcases hw with hw | rfl | rfl | rfl | rfl
    · rw [if_pos (.inr hw)] at h; simp at h; obtain ⟨rfl, rfl⟩ := h; exact band_Kept.calls120_x a1 hw w
    · simp [edgesV, rd] at h; obtain ⟨rfl, rfl⟩ := h; exact band_Kept.calls120_0 w
    · simp [edgesV, rd] at h; obtain ⟨rfl, rfl⟩ := h; exact band_Kept.calls120_1 w
    · simp [edgesV, rd] at h; obtain ⟨rfl, rfl⟩ := h; exact band_Kept.calls120_2 w
    · simp [edgesV, rd] at h; obtain ⟨rfl, rfl⟩ := h; exact band_Kept.calls120_3 w
  · rw [if_pos (.inl he)] at h; simp at h; obtain ⟨rfl, rfl⟩ := h
    clear he hw
    go_enter Try.func32, Try.ntmps32
    go_wp2_with (first | (go_at_call 54; refine (band_edges.callsNo _ hn _).mono ?_; rintro e w1 ⟨rfl, hb⟩))
    go_ret2
    exact ⟨rfl, below_alloc (by assumption) _⟩

/-! ### band_energy: function 58 -/
def band_energy.l0 : Nat → Int → List Int → Int → Int → Option (Int)
  | 0, _, _, _, _ => none
  | k + 1, x3, x7, x8, x9 => if x9 < x8 then (if 0 ≤ x9 then (if x9 < (x7.length : Int) then (band_energy.l0 k (IntKind.u64.wrap (x3 + (IntKind.u64.wrap (wrap64 ((wrap64 (Int.tdiv (mx (wrap64 (rd x7 x9)) (wrap64 (-(wrap64 (rd x7 x9))))) 8)) * (wrap64 (Int.tdiv (mx (wrap64 (rd x7 x9)) (wrap64 (-(wrap64 (rd x7 x9))))) 8))))))) x7 x8 (wrap64 (x9 + 1))) else (none)) else (none)) else (some x3)
def band_energy.f (k : Nat) (l0 : List Int) : Option (Int) := band_energy.l0 k 0 l0 (l0.length : Int) 0
theorem band_energy.mono_l : ∀ k, (∀ y0 y1 y2 y3, LeO (band_energy.l0 k y0 y1 y2 y3) (band_energy.l0 (k + 1) y0 y1 y2 y3))
  | 0 => fun _ _ _ _ r h => by simp [band_energy.l0] at h
  | k + 1 => by
    have ih0 := band_energy.mono_l k
    · intro y0 y1 y2 y3
      unfold band_energy.l0
      repeat' first
      | (with_reducible exact ih0 _ _ _ _)
      | (with_reducible exact LeO.refl _)
      | (with_reducible exact LeO.none _)
      | (with_reducible refine LeO.ite ?_ ?_)
      | (with_reducible refine LeO.bind ?_ (fun _ => ?_))
      | exact ih0 _ _ _ _
      | exact LeO.none _
      | refine LeO.ite ?_ ?_
      | refine LeO.bind ?_ (fun _ => ?_)
theorem band_energy.mono : ∀ a0 k, LeO (band_energy.f k a0) (band_energy.f (k + 1) a0) := by
  intro a0 k
  have ih0 := band_energy.mono_l k
  unfold band_energy.f
  repeat' first
      | (with_reducible exact ih0 _ _ _ _)
      | (with_reducible exact LeO.refl _)
      | (with_reducible exact LeO.none _)
      | (with_reducible refine LeO.ite ?_ ?_)
      | (with_reducible refine LeO.bind ?_ (fun _ => ?_))
      | exact ih0 _ _ _ _
      | exact LeO.none _
      | refine LeO.ite ?_ ?_
      | refine LeO.bind ?_ (fun _ => ?_)
set_option maxHeartbeats 8000000 in
set_option maxRecDepth 100000 in
theorem band_energy.same (k : Nat) (A0 : Option Addr) (c0 : Nat) (l0 : List Int) (r : Int) (w : World) (hr0 : Kd.C (Kd.int .i32) w A0 l0.length l0) (hc0 : l0.length ≤ c0) (h : band_energy.f k l0 = some r) :
    Calls Try.prog 58 #[.slice A0 l0.length c0] w fun e w' => e = .returned (.int .u64 r) ∧ w' = w := by
  have HR0 := Aside0.mk hr0
  have HC0 := Aside0.mk hc0
  clear hr0 hc0
  have H : (band_energy.l0 k 0 l0 (l0.length : Int) 0) = some r := h
  clear h
  have H' := Aside0.mk H
  clear H
  go_enter Try.func58, Try.ntmps58
  go_wp2
  go_loopg [3, 9] k (fun kq v3 v9 w' => ∃ (x3_1 : Int) (x9_1 : Int), v3 = .int .u64 x3_1 ∧ v9 = .int .i64 x9_1 ∧ Aside0 (band_energy.l0 kq x3_1 l0 (l0.length : Int) x9_1 = some r) ∧ Aside0 (kq ≤ k) ∧ w' = w)
  case atStart => exact ⟨(0), (0), (by first | rfl | (simp; done) | (simp [*]; done)), (by first | rfl | (simp; done) | (simp [*]; done)), H', ⟨Nat.le_refl _⟩, rfl⟩
  case round =>
    clear H'
    obtain ⟨x3_1, x9_1, rfl, rfl, HA, HK1, rfl⟩ := hrel
    cases gk with
    | zero => exact absurd HA.out (by simp [band_energy.l0])
    | succ k1 =>
      have H := HA.out
      clear HA
      simp only [band_energy.l0] at H
      by_cases c2 : x9_1 < (l0.length : Int)
      · rw [if_pos c2] at H
        have c2b0 : decide (x9_1 < (l0.length : Int)) = true := decide_eq_true c2
        clear c2
        by_cases c3 : 0 ≤ x9_1
        · rw [if_pos c3] at H
          have c3b0 : decide (0 ≤ x9_1) = true := decide_eq_true c3
          clear c3
          by_cases c4 : x9_1 < (l0.length : Int)
          · rw [if_pos c4] at H
            have c4b0 : decide (x9_1 < (l0.length : Int)) = true := decide_eq_true c4
            clear c4
            obtain ⟨ji5, hji5⟩ : ∃ j_ : Int, (mx (wrap64 (rd l0 x9_1)) (wrap64 (-(wrap64 (rd l0 x9_1))))) = j_ := ⟨_, rfl⟩
            replace H : (band_energy.l0 k1 (IntKind.u64.wrap (x3_1 + (IntKind.u64.wrap (wrap64 ((wrap64 (Int.tdiv (ji5) 8)) * (wrap64 (Int.tdiv (ji5) 8))))))) l0 (l0.length : Int) (wrap64 (x9_1 + 1))) = some r := by first | (rw [hji5] at H; exact H) | (simp only [hji5] at H ⊢; exact H)
            have hji5_ : (if (wrap64 (rd l0 x9_1)) < (wrap64 (-(wrap64 (rd l0 x9_1)))) then (wrap64 (-(wrap64 (rd l0 x9_1)))) else (wrap64 (rd l0 x9_1))) = ji5 := hji5
            have H' := Aside0.mk H
            clear H
            have p107 : 0 ≤ (x9_1 : Int) := of_decide_eq_true (by first | (with_reducible assumption) | assumption)
            have q107 : x9_1 < (l0.length : Int) := of_decide_eq_true (by first | (with_reducible assumption) | assumption)
            obtain ⟨ad107, e107, hx107_0⟩ := Kd.at_int HR0.out x9_1 p107 q107
            cases e107
            replace p107 := eq_true p107
            replace q107 := eq_true q107
            go_wp2
            go_roundg k1
            case measure => have := HK1.out; omega
            case rel => exact ⟨(IntKind.u64.wrap (x3_1 + (IntKind.u64.wrap (wrap64 ((wrap64 (Int.tdiv (ji5) 8)) * (wrap64 (Int.tdiv (ji5) 8))))))), (wrap64 (x9_1 + 1)), (by first | rfl | (simp; done) | (simp only [← hji5] <;> (first | rfl | simp)) | (simp [*]; done)), (by first | rfl | (simp; done) | (simp [*]; done)), H', ⟨by have := HK1.out; omega⟩, rfl⟩
          · rw [if_neg c4] at H
            exact absurd H (by simp)
        · rw [if_neg c3] at H
          exact absurd H (by simp)
      · rw [if_neg c2] at H
        have c2b0 : decide (x9_1 < (l0.length : Int)) = false := decide_eq_false c2
        clear c2
        obtain rfl := Option.some.inj H
        go_wp2
        go_ret
        exact ⟨by first | rfl | (simp [errW_none, errW_some] <;> rfl) | (simp [*, errW_none, errW_some] <;> rfl), rfl⟩

theorem band_energy.calls (k : Nat) (A0 : Option Addr) (c0 : Nat) (l0 : List Int) (r : Int) (w : World) (hr0 : Kd.C (Kd.int .i32) w A0 l0.length l0) (hc0 : l0.length ≤ c0) (h : band_energy.f k l0 = some r) :
    Calls Try.prog 58 #[.slice A0 l0.length c0] w fun e w' => e = .returned (.int .u64 r) ∧ Below w.heap.size w w' :=
  (band_energy.same k A0 c0 l0 r w hr0 hc0 h).mono fun _ _ ⟨h1, h2⟩ => ⟨h1, by rw [h2]; exact Below.refl _ _⟩

/-! ### band_Energies: function 42 -/
def seg (l : List Int) (a b : Int) : List Int := (l.take b.toNat).drop a.toNat
theorem seg_cut {A0 : Option Addr} {c0 : Nat} {l0 : List Int} {w : World} (hr0 : Kd.C (Kd.int .i32) w A0 l0.length l0) (hc0 : l0.length ≤ c0) (lo hi : Int) (h0 : 0 ≤ lo) (h1 : lo ≤ hi) (h2 : hi ≤ l0.length) :
    ∃ A c, (∀ W : World, (Instr.slice 69 (.slice A0 l0.length c0) (some (.int .i64 lo)) (some (.int .i64 hi)) none).run Try.prog W = .ok (.slice A (seg l0 lo hi).length c) W) ∧ (seg l0 lo hi).length ≤ c ∧ Kd.C (Kd.int .i32) w A (seg l0 lo hi).length (seg l0 lo hi) := by
  obtain ⟨i0, hi0, hz⟩ := Option.map_eq_some_iff.1 info21
  simp only [Prod.mk.injEq] at hz
  have hl : (seg l0 lo hi).length = hi.toNat - lo.toNat := by unfold seg; rw [List.length_drop, List.length_take]; omega
  refine ⟨_, c0 - lo.toNat, fun W => ?_, by rw [hl]; omega, Kd.C_mid hr0 (by omega) (by omega) hc0⟩
  rw [hl]
  exact cut_mid 69 21 .i64 .i64 Try.underlying69 hi0 1 hz.2.1 A0 l0.length c0 lo hi h0 h1 h2 hc0 W
def enAll (f : List Int → Option Int) (l : List Int) (es : List Int) : Option (List Int) :=
  (f (seg l (rd es 0) (rd es 1))).bind fun e0 => (f (seg l (rd es 1) (rd es 2))).bind fun e1 => (f (seg l (rd es 2) (rd es 3))).bind fun e2 => (f (seg l (rd es 3) (rd es 4))).bind fun e3 => (f (seg l (rd es 4) (rd es 5))).bind fun e4 => (f (seg l (rd es 5) (rd es 6))).bind fun e5 => (f (seg l (rd es 6) (rd es 7))).bind fun e6 => (f (seg l (rd es 7) (rd es 8))).bind fun e7 => some [e0, e1, e2, e3, e4, e5, e6, e7]
theorem enAll_mono {f g : List Int → Option Int} (h : ∀ l, LeO (f l) (g l)) (l es : List Int) : LeO (enAll f l es) (enAll g l es) := by
  unfold enAll
  exact LeO.bind (h _) fun _ => LeO.bind (h _) fun _ => LeO.bind (h _) fun _ => LeO.bind (h _) fun _ => LeO.bind (h _) fun _ => LeO.bind (h _) fun _ => LeO.bind (h _) fun _ => LeO.bind (h _) fun _ => LeO.refl _
theorem enAll_some {f : List Int → Option Int} {l es r : List Int} (h : enAll f l es = some r) : ∃ e0 e1 e2 e3 e4 e5 e6 e7, r = [e0, e1, e2, e3, e4, e5, e6, e7] ∧ f (seg l (rd es 0) (rd es 1)) = some e0 ∧ f (seg l (rd es 1) (rd es 2)) = some e1 ∧ f (seg l (rd es 2) (rd es 3)) = some e2 ∧ f (seg l (rd es 3) (rd es 4)) = some e3 ∧ f (seg l (rd es 4) (rd es 5)) = some e4 ∧ f (seg l (rd es 5) (rd es 6)) = some e5 ∧ f (seg l (rd es 6) (rd es 7)) = some e6 ∧ f (seg l (rd es 7) (rd es 8)) = some e7 := by
  unfold enAll at h
  simp only [Option.bind_eq_some_iff] at h
  obtain ⟨e0, h0, e1, h1, e2, h2, e3, h3, e4, h4, e5, h5, e6, h6, e7, h7, h8⟩ := h
  exact ⟨e0, e1, e2, e3, e4, e5, e6, e7, (Option.some.inj h8).symm, h0, h1, h2, h3, h4, h5, h6, h7⟩
def band_Energies.f (k : Nat) (l0 : List Int) : Option (List Int × Int) := if edgesV (l0.length : Int) = [] then some ([], 1) else (enAll (band_energy.f k) l0 (edgesV (l0.length : Int))).bind fun r => some (r, 0)
theorem band_Energies.mono : ∀ a0 k, LeO (band_Energies.f k a0) (band_Energies.f (k + 1) a0) := by
  intro a0 k
  unfold band_Energies.f
  exact LeO.ite (LeO.refl _) (LeO.bind (enAll_mono (fun l => band_energy.mono l k) _ _) fun _ => LeO.refl _)
def enUpto (r : List Int) (b : Int) : List Int := r.take b.toNat ++ List.replicate (8 - b.toNat) 0
theorem band_edges.at40 (m : Int) (h1 : 40 ≤ m) (h2 : m ≤ 40) (w : World) : Calls Try.prog 54 #[.int .i64 m] w fun e w' => e = .returned (.tuple #[.agg #[.int .i64 0, .int .i64 2, .int .i64 4, .int .i64 7, .int .i64 11, .int .i64 16, .int .i64 23, .int .i64 31, .int .i64 40], .bool true]) ∧ Below w.heap.size w w' := by
  obtain rfl : m = 40 := by omega
  exact band_edges.calls40 w
set_option maxHeartbeats 8000000 in
set_option maxRecDepth 100000 in
theorem band_Energies.calls40 (k : Nat) (A0 : Option Addr) (c0 : Nat) (l0 : List Int) (e0 e1 e2 e3 e4 e5 e6 e7 : Int) (w : World) (hr0 : Kd.C (Kd.int .i32) w A0 l0.length l0) (hc0 : l0.length ≤ c0) (hn : l0.length = 40)
    (q0 : Aside0 (band_energy.f k (seg l0 0 2) = some e0)) (q1 : Aside0 (band_energy.f k (seg l0 2 4) = some e1)) (q2 : Aside0 (band_energy.f k (seg l0 4 7) = some e2)) (q3 : Aside0 (band_energy.f k (seg l0 7 11) = some e3)) (q4 : Aside0 (band_energy.f k (seg l0 11 16) = some e4)) (q5 : Aside0 (band_energy.f k (seg l0 16 23) = some e5)) (q6 : Aside0 (band_energy.f k (seg l0 23 31) = some e6)) (q7 : Aside0 (band_energy.f k (seg l0 31 40) = some e7)) :
    Calls Try.prog 42 #[.slice A0 l0.length c0] w fun e w' => ∃ v0_ : Value, e = .returned (.tuple #[v0_, .int .i64 0]) ∧ Kd.R (Kd.int .u64) 66 w' w.heap.size (fun _ => True) v0_ [e0, e1, e2, e3, e4, e5, e6, e7] ∧ Below w.heap.size w w' := by
  have HR0 := Aside0.mk hr0
  have HC0 := Aside0.mk hc0
  clear hr0 hc0
  have hn1 : 40 ≤ l0.length := by omega
  have hn2 : l0.length ≤ 40 := by omega
  clear hn
  have HB := Aside0.mk (Below.refl w.heap.size w)
  go_enter Try.func42, Try.ntmps42
  go_wp2_with (first | (go_at_call 54; refine (band_edges.at40 _ (by omega) (by omega) _).mono ?_; rintro e w1 ⟨rfl, hb⟩; have n1_ := Aside0.mk (below_alloc hb (.cells #[.int .i64 0, .int .i64 2, .int .i64 4, .int .i64 7, .int .i64 11, .int .i64 16, .int .i64 23, .int .i64 31, .int .i64 40] 85)); have nb_ := Aside0.mk (blk_new w1 (.cells #[.int .i64 0, .int .i64 2, .int .i64 4, .int .i64 7, .int .i64 11, .int .i64 16, .int .i64 23, .int .i64 31, .int .i64 40] 85)); clear HB; have HB := n1_; have HX := nb_; clear n1_ nb_ hb) | ((with_reducible refine gate_dst (N := 16) rfl ?_); refine Kd.R_make (Kd.int .u64) _ 66 rfl (N := 16) rfl 70 _ _ rfl 8 rfl rfl Try.underlying70 (.int .u64 0) 8 info66 rfl (by decide) (by omega) 0 (ok := fun _ => True) (okp := fun _ => True) rfl (fun _ hk => hk) trivial (by omega) (by omega) (Below.refl _ _) (Nat.le_refl _) ?_; intro v102 w3 ho4 hb hg_ hnew_; clear hg_ hnew_; simp only [Int.reduceToNat] at ho4; have n0_ := Aside0.mk (Kd.R_lower ho4 (below_size HB.out)); have n1_ := Aside0.mk (below_step HB.out hb); have nb_ := Aside0.mk ((hb.block _ (blk_lt HX.out)).trans HX.out); clear HB HX; have HO := n0_; have HB := n1_; have HX := nb_; clear n0_ n1_ nb_; clear hb ho4; obtain ⟨go, co, eo, gb, gl, cl, HG⟩ := Kd.R_form HO.out (by decide); subst eo; have GB := Aside0.mk gb; clear gb gl HG cl))
  generalize hbx : w1.heap.size = bx at HX ⊢
  clear hbx
  go_loopg [7, 19, 21, 22, 23, 24, 25, 26, 27, 28, 29, 30, 31, 32, 33, 34] 8 (fun kq v7 v19 v21 v22 v23 v24 v25 v26 v27 v28 v29 v30 v31 v32 v33 v34 w' => ∃ b : Int, (kq : Int) + b = 8 ∧ 0 ≤ b ∧ v19 = .int .i64 b ∧ Aside0 (Kd.R (Kd.int .u64) 66 w' w.heap.size (fun _ => True) (.slice (some ⟨go, 0, none⟩) 8 co) (enUpto [e0, e1, e2, e3, e4, e5, e6, e7] b)) ∧ Aside0 (w'.heap[bx]? = some (.cells #[.int .i64 0, .int .i64 2, .int .i64 4, .int .i64 7, .int .i64 11, .int .i64 16, .int .i64 23, .int .i64 31, .int .i64 40] 85 (0, 0))) ∧ Aside0 (Below w.heap.size w w'))
  case atStart => exact ⟨0, rfl, Int.le_refl _, rfl, ⟨HO.out⟩, ⟨HX.out⟩, ⟨HB.out⟩⟩
  case round =>
    clear HO HX HB
    obtain ⟨b, hkb, hb0, rfl, HO, HX, HB⟩ := hrel
    have hb8 : b = 0 ∨ b = 1 ∨ b = 2 ∨ b = 3 ∨ b = 4 ∨ b = 5 ∨ b = 6 ∨ b = 7 ∨ b = 8 := by omega
    rcases hb8 with rfl | rfl | rfl | rfl | rfl | rfl | rfl | rfl | rfl
    · obtain ⟨As, cs, hsl, hcs, hCs⟩ := seg_cut HR0.out HC0.out 0 2 (by decide) (by decide) (by omega)
      have HCS := Aside0.mk hcs; have HRS := Aside0.mk hCs
      clear hcs hCs
      obtain rfl : gk = 7 + 1 := by omega
      clear hkb hb0
      have ca : wr.cell? ⟨bx, 0, none⟩ = some (.int .i64 0) := by simp [World.cell?, HX.out]
      have cb : wr.cell? ⟨bx, 1, none⟩ = some (.int .i64 2) := by simp [World.cell?, HX.out]
      obtain ⟨hy, hz⟩ := Kd.R_celln 0 HO.out 0 (by decide) (by decide)
      simp only [Int.reduceToNat] at hy hz
      have hwr : IntKind.i64.wrap 1 = 1 := by decide +kernel
      go_wp2
      go_still_tail 13, (by kernel_rfl)
      still_call (band_energy.same k As cs (seg l0 0 2) e0 _ (Kd.C_below HRS.out (below_drew HB.out)) HCS.out q0.out)
      repeat still_step
      refine wpStill_nil ?_
      change wpList _ _ _ _ _ wr.drew
      have HO2 := Aside0.mk (Kd.R_drew HO.out)
      have HX2 : Aside0 (wr.drew.heap[bx]? = _) := ⟨HX.out⟩
      have HB2 := Aside0.mk (below_drew HB.out)
      clear HO HX HB ca cb hy hz hsl hwr HCS HRS
      generalize wr.drew = wd at HO2 HX2 HB2 ⊢
      obtain ⟨hy, hz⟩ := Kd.R_celln 0 HO2.out 0 (by decide) (by decide)
      simp only [Int.reduceToNat] at hy hz
      have HP := Kd.R_putg HO2.out (0 : Int) e0
      refine store_event (t := 66) (p := 34) (v := ?vo0) (w1 := wd.setCell ⟨go, Int.toNat 0, none⟩ (.int .u64 e0)) ?hg0 ?ho0 ?hn0 ?hr0 ?_
      (case ho0 => rfl); (case hg0 => rfl); (case hn0 => rfl); (case hr0 => first | (go_simp; done) | (go_simp; rfl))
      intro w5 hw
      have hg : wd.grownBy w5 (some go) := by rw [hw]; exact HP.2
      have HO3 : Aside0 (Kd.R (Kd.int .u64) 66 w5 w.heap.size (fun _ => True) (.slice (some ⟨go, 0, none⟩) 8 co) (enUpto [e0, e1, e2, e3, e4, e5, e6, e7] 1)) := ⟨by rw [hw]; exact HP.1⟩
      have HX3 : Aside0 (w5.heap[bx]? = _) := ⟨blk_grown HX2.out hg (Kd.R_ne HO2.out HX2.out (by decide))⟩
      have HB3 : Aside0 (Below w.heap.size w w5) := ⟨by rw [hw]; exact below_set HB2.out GB.out⟩
      clear HP hy hz HO2 HX2 HB2 hg hw
      go_wp2
      go_roundg 7
      case measure => omega
      case rel => exact ⟨1, by decide, by decide, (by first | rfl | (simp; done)), ⟨HO3.out⟩, ⟨HX3.out⟩, ⟨HB3.out⟩⟩
    · obtain ⟨As, cs, hsl, hcs, hCs⟩ := seg_cut HR0.out HC0.out 2 4 (by decide) (by decide) (by omega)
      have HCS := Aside0.mk hcs; have HRS := Aside0.mk hCs
      clear hcs hCs
      obtain rfl : gk = 6 + 1 := by omega
      clear hkb hb0
      have ca : wr.cell? ⟨bx, 1, none⟩ = some (.int .i64 2) := by simp [World.cell?, HX.out]
      have cb : wr.cell? ⟨bx, 2, none⟩ = some (.int .i64 4) := by simp [World.cell?, HX.out]
      obtain ⟨hy, hz⟩ := Kd.R_celln 0 HO.out 1 (by decide) (by decide)
      simp only [Int.reduceToNat] at hy hz
      have hwr : IntKind.i64.wrap 2 = 2 := by decide +kernel
      go_wp2
      go_still_tail 13, (by kernel_rfl)
      still_call (band_energy.same k As cs (seg l0 2 4) e1 _ (Kd.C_below HRS.out (below_drew HB.out)) HCS.out q1.out)
      repeat still_step
      refine wpStill_nil ?_
      change wpList _ _ _ _ _ wr.drew
      have HO2 := Aside0.mk (Kd.R_drew HO.out)
      have HX2 : Aside0 (wr.drew.heap[bx]? = _) := ⟨HX.out⟩
      have HB2 := Aside0.mk (below_drew HB.out)
      clear HO HX HB ca cb hy hz hsl hwr HCS HRS
      generalize wr.drew = wd at HO2 HX2 HB2 ⊢
      obtain ⟨hy, hz⟩ := Kd.R_celln 0 HO2.out 1 (by decide) (by decide)
      simp only [Int.reduceToNat] at hy hz
      have HP := Kd.R_putg HO2.out (1 : Int) e1
      refine store_event (t := 66) (p := 34) (v := ?vo1) (w1 := wd.setCell ⟨go, Int.toNat 1, none⟩ (.int .u64 e1)) ?hg1 ?ho1 ?hn1 ?hr1 ?_
      (case ho1 => rfl); (case hg1 => rfl); (case hn1 => rfl); (case hr1 => first | (go_simp; done) | (go_simp; rfl))
      intro w5 hw
      have hg : wd.grownBy w5 (some go) := by rw [hw]; exact HP.2
      have HO3 : Aside0 (Kd.R (Kd.int .u64) 66 w5 w.heap.size (fun _ => True) (.slice (some ⟨go, 0, none⟩) 8 co) (enUpto [e0, e1, e2, e3, e4, e5, e6, e7] 2)) := ⟨by rw [hw]; exact HP.1⟩
      have HX3 : Aside0 (w5.heap[bx]? = _) := ⟨blk_grown HX2.out hg (Kd.R_ne HO2.out HX2.out (by decide))⟩
      have HB3 : Aside0 (Below w.heap.size w w5) := ⟨by rw [hw]; exact below_set HB2.out GB.out⟩
      clear HP hy hz HO2 HX2 HB2 hg hw
      go_wp2
      go_roundg 6
      case measure => omega
      case rel => exact ⟨2, by decide, by decide, (by first | rfl | (simp; done)), ⟨HO3.out⟩, ⟨HX3.out⟩, ⟨HB3.out⟩⟩
    · obtain ⟨As, cs, hsl, hcs, hCs⟩ := seg_cut HR0.out HC0.out 4 7 (by decide) (by decide) (by omega)
      have HCS := Aside0.mk hcs; have HRS := Aside0.mk hCs
      clear hcs hCs
      obtain rfl : gk = 5 + 1 := by omega
      clear hkb hb0
      have ca : wr.cell? ⟨bx, 2, none⟩ = some (.int .i64 4) := by simp [World.cell?, HX.out]
      have cb : wr.cell? ⟨bx, 3, none⟩ = some (.int .i64 7) := by simp [World.cell?, HX.out]
      obtain ⟨hy, hz⟩ := Kd.R_celln 0 HO.out 2 (by decide) (by decide)
      simp only [Int.reduceToNat] at hy hz
      have hwr : IntKind.i64.wrap 3 = 3 := by decide +kernel
      go_wp2
      go_still_tail 13, (by kernel_rfl)
      still_call (band_energy.same k As cs (seg l0 4 7) e2 _ (Kd.C_below HRS.out (below_drew HB.out)) HCS.out q2.out)
      repeat still_step
      refine wpStill_nil ?_
      change wpList _ _ _ _ _ wr.drew
      have HO2 := Aside0.mk (Kd.R_drew HO.out)
      have HX2 : Aside0 (wr.drew.heap[bx]? = _) := ⟨HX.out⟩
      have HB2 := Aside0.mk (below_drew HB.out)
      clear HO HX HB ca cb hy hz hsl hwr HCS HRS
      generalize wr.drew = wd at HO2 HX2 HB2 ⊢
      obtain ⟨hy, hz⟩ := Kd.R_celln 0 HO2.out 2 (by decide) (by decide)
      simp only [Int.reduceToNat] at hy hz
      have HP := Kd.R_putg HO2.out (2 : Int) e2
      refine store_event (t := 66) (p := 34) (v := ?vo2) (w1 := wd.setCell ⟨go, Int.toNat 2, none⟩ (.int .u64 e2)) ?hg2 ?ho2 ?hn2 ?hr2 ?_
      (case ho2 => rfl); (case hg2 => rfl); (case hn2 => rfl); (case hr2 => first | (go_simp; done) | (go_simp; rfl))
      intro w5 hw
      have hg : wd.grownBy w5 (some go) := by rw [hw]; exact HP.2
      have HO3 : Aside0 (Kd.R (Kd.int .u64) 66 w5 w.heap.size (fun _ => True) (.slice (some ⟨go, 0, none⟩) 8 co) (enUpto [e0, e1, e2, e3, e4, e5, e6, e7] 3)) := ⟨by rw [hw]; exact HP.1⟩
      have HX3 : Aside0 (w5.heap[bx]? = _) := ⟨blk_grown HX2.out hg (Kd.R_ne HO2.out HX2.out (by decide))⟩
      have HB3 : Aside0 (Below w.heap.size w w5) := ⟨by rw [hw]; exact below_set HB2.out GB.out⟩
      clear HP hy hz HO2 HX2 HB2 hg hw
      go_wp2
      go_roundg 5
      case measure => omega
      case rel => exact ⟨3, by decide, by decide, (by first | rfl | (simp; done)), ⟨HO3.out⟩, ⟨HX3.out⟩, ⟨HB3.out⟩⟩
    · obtain ⟨As, cs, hsl, hcs, hCs⟩ := seg_cut HR0.out HC0.out 7 11 (by decide) (by decide) (by omega)
      have HCS := Aside0.mk hcs; have HRS := Aside0.mk hCs
      clear hcs hCs
      obtain rfl : gk = 4 + 1 := by omega
      clear hkb hb0
      have ca : wr.cell? ⟨bx, 3, none⟩ = some (.int .i64 7) := by simp [World.cell?, HX.out]
      have cb : wr.cell? ⟨bx, 4, none⟩ = some (.int .i64 11) := by simp [World.cell?, HX.out]
      obtain ⟨hy, hz⟩ := Kd.R_celln 0 HO.out 3 (by decide) (by decide)
      simp only [Int.reduceToNat] at hy hz
      have hwr : IntKind.i64.wrap 4 = 4 := by decide +kernel
      go_wp2
      go_still_tail 13, (by kernel_rfl)
      still_call (band_energy.same k As cs (seg l0 7 11) e3 _ (Kd.C_below HRS.out (below_drew HB.out)) HCS.out q3.out)
      repeat still_step
      refine wpStill_nil ?_
      change wpList _ _ _ _ _ wr.drew
      have HO2 := Aside0.mk (Kd.R_drew HO.out)
      have HX2 : Aside0 (wr.drew.heap[bx]? = _) := ⟨HX.out⟩
      have HB2 := Aside0.mk (below_drew HB.out)
      clear HO HX HB ca cb hy hz hsl hwr HCS HRS
      generalize wr.drew = wd at HO2 HX2 HB2 ⊢
      obtain ⟨hy, hz⟩ := Kd.R_celln 0 HO2.out 3 (by decide) (by decide)
      simp only [Int.reduceToNat] at hy hz
      have HP := Kd.R_putg HO2.out (3 : Int) e3
      refine store_event (t := 66) (p := 34) (v := ?vo3) (w1 := wd.setCell ⟨go, Int.toNat 3, none⟩ (.int .u64 e3)) ?hg3 ?ho3 ?hn3 ?hr3 ?_
      (case ho3 => rfl); (case hg3 => rfl); (case hn3 => rfl); (case hr3 => first | (go_simp; done) | (go_simp; rfl))
      intro w5 hw
      have hg : wd.grownBy w5 (some go) := by rw [hw]; exact HP.2
      have HO3 : Aside0 (Kd.R (Kd.int .u64) 66 w5 w.heap.size (fun _ => True) (.slice (some ⟨go, 0, none⟩) 8 co) (enUpto [e0, e1, e2, e3, e4, e5, e6, e7] 4)) := ⟨by rw [hw]; exact HP.1⟩
      have HX3 : Aside0 (w5.heap[bx]? = _) := ⟨blk_grown HX2.out hg (Kd.R_ne HO2.out HX2.out (by decide))⟩
      have HB3 : Aside0 (Below w.heap.size w w5) := ⟨by rw [hw]; exact below_set HB2.out GB.out⟩
      clear HP hy hz HO2 HX2 HB2 hg hw
      go_wp2
      go_roundg 4
      case measure => omega
      case rel => exact ⟨4, by decide, by decide, (by first | rfl | (simp; done)), ⟨HO3.out⟩, ⟨HX3.out⟩, ⟨HB3.out⟩⟩
    · obtain ⟨As, cs, hsl, hcs, hCs⟩ := seg_cut HR0.out HC0.out 11 16 (by decide) (by decide) (by omega)
      have HCS := Aside0.mk hcs; have HRS := Aside0.mk hCs
      clear hcs hCs
      obtain rfl : gk = 3 + 1 := by omega
      clear hkb hb0
      have ca : wr.cell? ⟨bx, 4, none⟩ = some (.int .i64 11) := by simp [World.cell?, HX.out]
      have cb : wr.cell? ⟨bx, 5, none⟩ = some (.int .i64 16) := by simp [World.cell?, HX.out]
      obtain ⟨hy, hz⟩ := Kd.R_celln 0 HO.out 4 (by decide) (by decide)
      simp only [Int.reduceToNat] at hy hz
      have hwr : IntKind.i64.wrap 5 = 5 := by decide +kernel
      go_wp2
      go_still_tail 13, (by kernel_rfl)
      still_call (band_energy.same k As cs (seg l0 11 16) e4 _ (Kd.C_below HRS.out (below_drew HB.out)) HCS.out q4.out)
      repeat still_step
      refine wpStill_nil ?_
      change wpList _ _ _ _ _ wr.drew
      have HO2 := Aside0.mk (Kd.R_drew HO.out)
      have HX2 : Aside0 (wr.drew.heap[bx]? = _) := ⟨HX.out⟩
      have HB2 := Aside0.mk (below_drew HB.out)
      clear HO HX HB ca cb hy hz hsl hwr HCS HRS
      generalize wr.drew = wd at HO2 HX2 HB2 ⊢
      obtain ⟨hy, hz⟩ := Kd.R_celln 0 HO2.out 4 (by decide) (by decide)
      simp only [Int.reduceToNat] at hy hz
      have HP := Kd.R_putg HO2.out (4 : Int) e4
      refine store_event (t := 66) (p := 34) (v := ?vo4) (w1 := wd.setCell ⟨go, Int.toNat 4, none⟩ (.int .u64 e4)) ?hg4 ?ho4 ?hn4 ?hr4 ?_
      (case ho4 => rfl); (case hg4 => rfl); (case hn4 => rfl); (case hr4 => first | (go_simp; done) | (go_simp; rfl))
      intro w5 hw
      have hg : wd.grownBy w5 (some go) := by rw [hw]; exact HP.2
      have HO3 : Aside0 (Kd.R (Kd.int .u64) 66 w5 w.heap.size (fun _ => True) (.slice (some ⟨go, 0, none⟩) 8 co) (enUpto [e0, e1, e2, e3, e4, e5, e6, e7] 5)) := ⟨by rw [hw]; exact HP.1⟩
      have HX3 : Aside0 (w5.heap[bx]? = _) := ⟨blk_grown HX2.out hg (Kd.R_ne HO2.out HX2.out (by decide))⟩
      have HB3 : Aside0 (Below w.heap.size w w5) := ⟨by rw [hw]; exact below_set HB2.out GB.out⟩
      clear HP hy hz HO2 HX2 HB2 hg hw
      go_wp2
      go_roundg 3
      case measure => omega
      case rel => exact ⟨5, by decide, by decide, (by first | rfl | (simp; done)), ⟨HO3.out⟩, ⟨HX3.out⟩, ⟨HB3.out⟩⟩
    · obtain ⟨As, cs, hsl, hcs, hCs⟩ := seg_cut HR0.out HC0.out 16 23 (by decide) (by decide) (by omega)
      have HCS := Aside0.mk hcs; have HRS := Aside0.mk hCs
      clear hcs hCs
      obtain rfl : gk = 2 + 1 := by omega
      clear hkb hb0
      have ca : wr.cell? ⟨bx, 5, none⟩ = some (.int .i64 16) := by simp [World.cell?, HX.out]
      have cb : wr.cell? ⟨bx, 6, none⟩ = some (.int .i64 23) := by simp [World.cell?, HX.out]
      obtain ⟨hy, hz⟩ := Kd.R_celln 0 HO.out 5 (by decide) (by decide)
      simp only [Int.reduceToNat] at hy hz
      have hwr : IntKind.i64.wrap 6 = 6 := by decide +kernel
      go_wp2
      go_still_tail 13, (by kernel_rfl)
      still_call (band_energy.same k As cs (seg l0 16 23) e5 _ (Kd.C_below HRS.out (below_drew HB.out)) HCS.out q5.out)
      repeat still_step
      refine wpStill_nil ?_
      change wpList _ _ _ _ _ wr.drew
      have HO2 := Aside0.mk (Kd.R_drew HO.out)
      have HX2 : Aside0 (wr.drew.heap[bx]? = _) := ⟨HX.out⟩
      have HB2 := Aside0.mk (below_drew HB.out)
      clear HO HX HB ca cb hy hz hsl hwr HCS HRS
      generalize wr.drew = wd at HO2 HX2 HB2 ⊢
      obtain ⟨hy, hz⟩ := Kd.R_celln 0 HO2.out 5 (by decide) (by decide)
      simp only [Int.reduceToNat] at hy hz
      have HP := Kd.R_putg HO2.out (5 : Int) e5
      refine store_event (t := 66) (p := 34) (v := ?vo5) (w1 := wd.setCell ⟨go, Int.toNat 5, none⟩ (.int .u64 e5)) ?hg5 ?ho5 ?hn5 ?hr5 ?_
      (case ho5 => rfl); (case hg5 => rfl); (case hn5 => rfl); (case hr5 => first | (go_simp; done) | (go_simp; rfl))
      intro w5 hw
      have hg : wd.grownBy w5 (some go) := by rw [hw]; exact HP.2
      have HO3 : Aside0 (Kd.R (Kd.int .u64) 66 w5 w.heap.size (fun _ => True) (.slice (some ⟨go, 0, none⟩) 8 co) (enUpto [e0, e1, e2, e3, e4, e5, e6, e7] 6)) := ⟨by rw [hw]; exact HP.1⟩
      have HX3 : Aside0 (w5.heap[bx]? = _) := ⟨blk_grown HX2.out hg (Kd.R_ne HO2.out HX2.out (by decide))⟩
      have HB3 : Aside0 (Below w.heap.size w w5) := ⟨by rw [hw]; exact below_set HB2.out GB.out⟩
      clear HP hy hz HO2 HX2 HB2 hg hw
      go_wp2
      go_roundg 2
      case measure => omega
      case rel => exact ⟨6, by decide, by decide, (by first | rfl | (simp; done)), ⟨HO3.out⟩, ⟨HX3.out⟩, ⟨HB3.out⟩⟩
    · obtain ⟨As, cs, hsl, hcs, hCs⟩ := seg_cut HR0.out HC0.out 23 31 (by decide) (by decide) (by omega)
      have HCS := Aside0.mk hcs; have HRS := Aside0.mk hCs
      clear hcs hCs
      obtain rfl : gk = 1 + 1 := by omega
      clear hkb hb0
      have ca : wr.cell? ⟨bx, 6, none⟩ = some (.int .i64 23) := by simp [World.cell?, HX.out]
      have cb : wr.cell? ⟨bx, 7, none⟩ = some (.int .i64 31) := by simp [World.cell?, HX.out]
      obtain ⟨hy, hz⟩ := Kd.R_celln 0 HO.out 6 (by decide) (by decide)
      simp only [Int.reduceToNat] at hy hz
      have hwr : IntKind.i64.wrap 7 = 7 := by decide +kernel
      go_wp2
      go_still_tail 13, (by kernel_rfl)
      still_call (band_energy.same k As cs (seg l0 23 31) e6 _ (Kd.C_below HRS.out (below_drew HB.out)) HCS.out q6.out)
      repeat still_step
      refine wpStill_nil ?_
      change wpList _ _ _ _ _ wr.drew
      have HO2 := Aside0.mk (Kd.R_drew HO.out)
      have HX2 : Aside0 (wr.drew.heap[bx]? = _) := ⟨HX.out⟩
      have HB2 := Aside0.mk (below_drew HB.out)
      clear HO HX HB ca cb hy hz hsl hwr HCS HRS
      generalize wr.drew = wd at HO2 HX2 HB2 ⊢
      obtain ⟨hy, hz⟩ := Kd.R_celln 0 HO2.out 6 (by decide) (by decide)
      simp only [Int.reduceToNat] at hy hz
      have HP := Kd.R_putg HO2.out (6 : Int) e6
      refine store_event (t := 66) (p := 34) (v := ?vo6) (w1 := wd.setCell ⟨go, Int.toNat 6, none⟩ (.int .u64 e6)) ?hg6 ?ho6 ?hn6 ?hr6 ?_
      (case ho6 => rfl); (case hg6 => rfl); (case hn6 => rfl); (case hr6 => first | (go_simp; done) | (go_simp; rfl))
      intro w5 hw
      have hg : wd.grownBy w5 (some go) := by rw [hw]; exact HP.2
      have HO3 : Aside0 (Kd.R (Kd.int .u64) 66 w5 w.heap.size (fun _ => True) (.slice (some ⟨go, 0, none⟩) 8 co) (enUpto [e0, e1, e2, e3, e4, e5, e6, e7] 7)) := ⟨by rw [hw]; exact HP.1⟩
      have HX3 : Aside0 (w5.heap[bx]? = _) := ⟨blk_grown HX2.out hg (Kd.R_ne HO2.out HX2.out (by decide))⟩
      have HB3 : Aside0 (Below w.heap.size w w5) := ⟨by rw [hw]; exact below_set HB2.out GB.out⟩
      clear HP hy hz HO2 HX2 HB2 hg hw
      go_wp2
      go_roundg 1
      case measure => omega
      case rel => exact ⟨7, by decide, by decide, (by first | rfl | (simp; done)), ⟨HO3.out⟩, ⟨HX3.out⟩, ⟨HB3.out⟩⟩
    · obtain ⟨As, cs, hsl, hcs, hCs⟩ := seg_cut HR0.out HC0.out 31 40 (by decide) (by decide) (by omega)
      have HCS := Aside0.mk hcs; have HRS := Aside0.mk hCs
      clear hcs hCs
      obtain rfl : gk = 0 + 1 := by omega
      clear hkb hb0
      have ca : wr.cell? ⟨bx, 7, none⟩ = some (.int .i64 31) := by simp [World.cell?, HX.out]
      have cb : wr.cell? ⟨bx, 8, none⟩ = some (.int .i64 40) := by simp [World.cell?, HX.out]
      obtain ⟨hy, hz⟩ := Kd.R_celln 0 HO.out 7 (by decide) (by decide)
      simp only [Int.reduceToNat] at hy hz
      have hwr : IntKind.i64.wrap 8 = 8 := by decide +kernel
      go_wp2
      go_still_tail 13, (by kernel_rfl)
      still_call (band_energy.same k As cs (seg l0 31 40) e7 _ (Kd.C_below HRS.out (below_drew HB.out)) HCS.out q7.out)
      repeat still_step
      refine wpStill_nil ?_
      change wpList _ _ _ _ _ wr.drew
      have HO2 := Aside0.mk (Kd.R_drew HO.out)
      have HX2 : Aside0 (wr.drew.heap[bx]? = _) := ⟨HX.out⟩
      have HB2 := Aside0.mk (below_drew HB.out)
      clear HO HX HB ca cb hy hz hsl hwr HCS HRS
      generalize wr.drew = wd at HO2 HX2 HB2 ⊢
      obtain ⟨hy, hz⟩ := Kd.R_celln 0 HO2.out 7 (by decide) (by decide)
      simp only [Int.reduceToNat] at hy hz
      have HP := Kd.R_putg HO2.out (7 : Int) e7
      refine store_event (t := 66) (p := 34) (v := ?vo7) (w1 := wd.setCell ⟨go, Int.toNat 7, none⟩ (.int .u64 e7)) ?hg7 ?ho7 ?hn7 ?hr7 ?_
      (case ho7 => rfl); (case hg7 => rfl); (case hn7 => rfl); (case hr7 => first | (go_simp; done) | (go_simp; rfl))
      intro w5 hw
      have hg : wd.grownBy w5 (some go) := by rw [hw]; exact HP.2
      have HO3 : Aside0 (Kd.R (Kd.int .u64) 66 w5 w.heap.size (fun _ => True) (.slice (some ⟨go, 0, none⟩) 8 co) (enUpto [e0, e1, e2, e3, e4, e5, e6, e7] 8)) := ⟨by rw [hw]; exact HP.1⟩
      have HX3 : Aside0 (w5.heap[bx]? = _) := ⟨blk_grown HX2.out hg (Kd.R_ne HO2.out HX2.out (by decide))⟩
      have HB3 : Aside0 (Below w.heap.size w w5) := ⟨by rw [hw]; exact below_set HB2.out GB.out⟩
      clear HP hy hz HO2 HX2 HB2 hg hw
      go_wp2
      go_roundg 0
      case measure => omega
      case rel => exact ⟨8, by decide, by decide, (by first | rfl | (simp; done)), ⟨HO3.out⟩, ⟨HX3.out⟩, ⟨HB3.out⟩⟩
    · clear hkb hb0
      go_wp2
      go_ret2
      exact ⟨_, rfl, HO.out, HB.out⟩
theorem band_edges.at60 (m : Int) (h1 : 60 ≤ m) (h2 : m ≤ 60) (w : World) : Calls Try.prog 54 #[.int .i64 m] w fun e w' => e = .returned (.tuple #[.agg #[.int .i64 0, .int .i64 3, .int .i64 6, .int .i64 10, .int .i64 16, .int .i64 24, .int .i64 34, .int .i64 46, .int .i64 60], .bool true]) ∧ Below w.heap.size w w' := by
  obtain rfl : m = 60 := by omega
  exact band_edges.calls60 w
set_option maxHeartbeats 8000000 in
set_option maxRecDepth 100000 in
theorem band_Energies.calls60 (k : Nat) (A0 : Option Addr) (c0 : Nat) (l0 : List Int) (e0 e1 e2 e3 e4 e5 e6 e7 : Int) (w : World) (hr0 : Kd.C (Kd.int .i32) w A0 l0.length l0) (hc0 : l0.length ≤ c0) (hn : l0.length = 60)
    (q0 : Aside0 (band_energy.f k (seg l0 0 3) = some e0)) (q1 : Aside0 (band_energy.f k (seg l0 3 6) = some e1)) (q2 : Aside0 (band_energy.f k (seg l0 6 10) = some e2)) (q3 : Aside0 (band_energy.f k (seg l0 10 16) = some e3)) (q4 : Aside0 (band_energy.f k (seg l0 16 24) = some e4)) (q5 : Aside0 (band_energy.f k (seg l0 24 34) = some e5)) (q6 : Aside0 (band_energy.f k (seg l0 34 46) = some e6)) (q7 : Aside0 (band_energy.f k (seg l0 46 60) = some e7)) :
    Calls Try.prog 42 #[.slice A0 l0.length c0] w fun e w' => ∃ v0_ : Value, e = .returned (.tuple #[v0_, .int .i64 0]) ∧ Kd.R (Kd.int .u64) 66 w' w.heap.size (fun _ => True) v0_ [e0, e1, e2, e3, e4, e5, e6, e7] ∧ Below w.heap.size w w' := by
  have HR0 := Aside0.mk hr0
  have HC0 := Aside0.mk hc0
  clear hr0 hc0
  have hn1 : 60 ≤ l0.length := by omega
  have hn2 : l0.length ≤ 60 := by omega
  clear hn
  have HB := Aside0.mk (Below.refl w.heap.size w)
  go_enter Try.func42, Try.ntmps42
  go_wp2_with (first | (go_at_call 54; refine (band_edges.at60 _ (by omega) (by omega) _).mono ?_; rintro e w1 ⟨rfl, hb⟩; have n1_ := Aside0.mk (below_alloc hb (.cells #[.int .i64 0, .int .i64 3, .int .i64 6, .int .i64 10, .int .i64 16, .int .i64 24, .int .i64 34, .int .i64 46, .int .i64 60] 85)); have nb_ := Aside0.mk (blk_new w1 (.cells #[.int .i64 0, .int .i64 3, .int .i64 6, .int .i64 10, .int .i64 16, .int .i64 24, .int .i64 34, .int .i64 46, .int .i64 60] 85)); clear HB; have HB := n1_; have HX := nb_; clear n1_ nb_ hb) | ((with_reducible refine gate_dst (N := 16) rfl ?_); refine Kd.R_make (Kd.int .u64) _ 66 rfl (N := 16) rfl 70 _ _ rfl 8 rfl rfl Try.underlying70 (.int .u64 0) 8 info66 rfl (by decide) (by omega) 0 (ok := fun _ => True) (okp := fun _ => True) rfl (fun _ hk => hk) trivial (by omega) (by omega) (Below.refl _ _) (Nat.le_refl _) ?_; intro v102 w3 ho4 hb hg_ hnew_; clear hg_ hnew_; simp only [Int.reduceToNat] at ho4; have n0_ := Aside0.mk (Kd.R_lower ho4 (below_size HB.out)); have n1_ := Aside0.mk (below_step HB.out hb); have nb_ := Aside0.mk ((hb.block _ (blk_lt HX.out)).trans HX.out); clear HB HX; have HO := n0_; have HB := n1_; have HX := nb_; clear n0_ n1_ nb_; clear hb ho4; obtain ⟨go, co, eo, gb, gl, cl, HG⟩ := Kd.R_form HO.out (by decide); subst eo; have GB := Aside0.mk gb; clear gb gl HG cl))
  generalize hbx : w1.heap.size = bx at HX ⊢
  clear hbx
  go_loopg [7, 19, 21, 22, 23, 24, 25, 26, 27, 28, 29, 30, 31, 32, 33, 34] 8 (fun kq v7 v19 v21 v22 v23 v24 v25 v26 v27 v28 v29 v30 v31 v32 v33 v34 w' => ∃ b : Int, (kq : Int) + b = 8 ∧ 0 ≤ b ∧ v19 = .int .i64 b ∧ Aside0 (Kd.R (Kd.int .u64) 66 w' w.heap.size (fun _ => True) (.slice (some ⟨go, 0, none⟩) 8 co) (enUpto [e0, e1, e2, e3, e4, e5, e6, e7] b)) ∧ Aside0 (w'.heap[bx]? = some (.cells #[.int .i64 0, .int .i64 3, .int .i64 6, .int .i64 10, .int .i64 16, .int .i64 24, .int .i64 34, .int .i64 46, .int .i64 60] 85 (0, 0))) ∧ Aside0 (Below w.heap.size w w'))
  case atStart => exact ⟨0, rfl, Int.le_refl _, rfl, ⟨HO.out⟩, ⟨HX.out⟩, ⟨HB.out⟩⟩
  case round =>
    clear HO HX HB
    obtain ⟨b, hkb, hb0, rfl, HO, HX, HB⟩ := hrel
    have hb8 : b = 0 ∨ b = 1 ∨ b = 2 ∨ b = 3 ∨ b = 4 ∨ b = 5 ∨ b = 6 ∨ b = 7 ∨ b = 8 := by omega
    rcases hb8 with rfl | rfl | rfl | rfl | rfl | rfl | rfl | rfl | rfl
    · obtain ⟨As, cs, hsl, hcs, hCs⟩ := seg_cut HR0.out HC0.out 0 3 (by decide) (by decide) (by omega)
      have HCS := Aside0.mk hcs; have HRS := Aside0.mk hCs
      clear hcs hCs
      obtain rfl : gk = 7 + 1 := by omega
      clear hkb hb0
      have ca : wr.cell? ⟨bx, 0, none⟩ = some (.int .i64 0) := by simp [World.cell?, HX.out]
      have cb : wr.cell? ⟨bx, 1, none⟩ = some (.int .i64 3) := by simp [World.cell?, HX.out]
      obtain ⟨hy, hz⟩ := Kd.R_celln 0 HO.out 0 (by decide) (by decide)
      simp only [Int.reduceToNat] at hy hz
      have hwr : IntKind.i64.wrap 1 = 1 := by decide +kernel
      go_wp2
      go_still_tail 13, (by kernel_rfl)
      still_call (band_energy.same k As cs (seg l0 0 3) e0 _ (Kd.C_below HRS.out (below_drew HB.out)) HCS.out q0.out)
      repeat still_step
      refine wpStill_nil ?_
      change wpList _ _ _ _ _ wr.drew
      have HO2 := Aside0.mk (Kd.R_drew HO.out)
      have HX2 : Aside0 (wr.drew.heap[bx]? = _) := ⟨HX.out⟩
      have HB2 := Aside0.mk (below_drew HB.out)
      clear HO HX HB ca cb hy hz hsl hwr HCS HRS
      generalize wr.drew = wd at HO2 HX2 HB2 ⊢
      obtain ⟨hy, hz⟩ := Kd.R_celln 0 HO2.out 0 (by decide) (by decide)
      simp only [Int.reduceToNat] at hy hz
      have HP := Kd.R_putg HO2.out (0 : Int) e0
      refine store_event (t := 66) (p := 34) (v := ?vo0) (w1 := wd.setCell ⟨go, Int.toNat 0, none⟩ (.int .u64 e0)) ?hg0 ?ho0 ?hn0 ?hr0 ?_
      (case ho0 => rfl); (case hg0 => rfl); (case hn0 => rfl); (case hr0 => first | (go_simp; done) | (go_simp; rfl))
      intro w5 hw
      have hg : wd.grownBy w5 (some go) := by rw [hw]; exact HP.2
      have HO3 : Aside0 (Kd.R (Kd.int .u64) 66 w5 w.heap.size (fun _ => True) (.slice (some ⟨go, 0, none⟩) 8 co) (enUpto [e0, e1, e2, e3, e4, e5, e6, e7] 1)) := ⟨by rw [hw]; exact HP.1⟩
      have HX3 : Aside0 (w5.heap[bx]? = _) := ⟨blk_grown HX2.out hg (Kd.R_ne HO2.out HX2.out (by decide))⟩
      have HB3 : Aside0 (Below w.heap.size w w5) := ⟨by rw [hw]; exact below_set HB2.out GB.out⟩
      clear HP hy hz HO2 HX2 HB2 hg hw
      go_wp2
      go_roundg 7
      case measure => omega
      case rel => exact ⟨1, by decide, by decide, (by first | rfl | (simp; done)), ⟨HO3.out⟩, ⟨HX3.out⟩, ⟨HB3.out⟩⟩
    · obtain ⟨As, cs, hsl, hcs, hCs⟩ := seg_cut HR0.out HC0.out 3 6 (by decide) (by decide) (by omega)
      have HCS := Aside0.mk hcs; have HRS := Aside0.mk hCs
      clear hcs hCs
      obtain rfl : gk = 6 + 1 := by omega
      clear hkb hb0
      have ca : wr.cell? ⟨bx, 1, none⟩ = some (.int .i64 3) := by simp [World.cell?, HX.out]
      have cb : wr.cell? ⟨bx, 2, none⟩ = some (.int .i64 6) := by simp [World.cell?, HX.out]
      obtain ⟨hy, hz⟩ := Kd.R_celln 0 HO.out 1 (by decide) (by decide)
      simp only [Int.reduceToNat] at hy hz
      have hwr : IntKind.i64.wrap 2 = 2 := by decide +kernel
      go_wp2
      go_still_tail 13, (by kernel_rfl)
      still_call (band_energy.same k As cs (seg l0 3 6) e1 _ (Kd.C_below HRS.out (below_drew HB.out)) HCS.out q1.out)
      repeat still_step
      refine wpStill_nil ?_
      change wpList _ _ _ _ _ wr.drew
      have HO2 := Aside0.mk (Kd.R_drew HO.out)
      have HX2 : Aside0 (wr.drew.heap[bx]? = _) := ⟨HX.out⟩
      have HB2 := Aside0.mk (below_drew HB.out)
      clear HO HX HB ca cb hy hz hsl hwr HCS HRS
      generalize wr.drew = wd at HO2 HX2 HB2 ⊢
      obtain ⟨hy, hz⟩ := Kd.R_celln 0 HO2.out 1 (by decide) (by decide)
      simp only [Int.reduceToNat] at hy hz
      have HP := Kd.R_putg HO2.out (1 : Int) e1
      refine store_event (t := 66) (p := 34) (v := ?vo1) (w1 := wd.setCell ⟨go, Int.toNat 1, none⟩ (.int .u64 e1)) ?hg1 ?ho1 ?hn1 ?hr1 ?_
      (case ho1 => rfl); (case hg1 => rfl); (case hn1 => rfl); (case hr1 => first | (go_simp; done) | (go_simp; rfl))
      intro w5 hw
      have hg : wd.grownBy w5 (some go) := by rw [hw]; exact HP.2
      have HO3 : Aside0 (Kd.R (Kd.int .u64) 66 w5 w.heap.size (fun _ => True) (.slice (some ⟨go, 0, none⟩) 8 co) (enUpto [e0, e1, e2, e3, e4, e5, e6, e7] 2)) := ⟨by rw [hw]; exact HP.1⟩
      have HX3 : Aside0 (w5.heap[bx]? = _) := ⟨blk_grown HX2.out hg (Kd.R_ne HO2.out HX2.out (by decide))⟩
      have HB3 : Aside0 (Below w.heap.size w w5) := ⟨by rw [hw]; exact below_set HB2.out GB.out⟩
      clear HP hy hz HO2 HX2 HB2 hg hw
      go_wp2
      go_roundg 6
      case measure => omega
      case rel => exact ⟨2, by decide, by decide, (by first | rfl | (simp; done)), ⟨HO3.out⟩, ⟨HX3.out⟩, ⟨HB3.out⟩⟩
    · obtain ⟨As, cs, hsl, hcs, hCs⟩ := seg_cut HR0.out HC0.out 6 10 (by decide) (by decide) (by omega)
      have HCS := Aside0.mk hcs; have HRS := Aside0.mk hCs
      clear hcs hCs
      obtain rfl : gk = 5 + 1 := by omega
      clear hkb hb0
      have ca : wr.cell? ⟨bx, 2, none⟩ = some (.int .i64 6) := by simp [World.cell?, HX.out]
      have cb : wr.cell? ⟨bx, 3, none⟩ = some (.int .i64 10) := by simp [World.cell?, HX.out]
      obtain ⟨hy, hz⟩ := Kd.R_celln 0 HO.out 2 (by decide) (by decide)
      simp only [Int.reduceToNat] at hy hz
      have hwr : IntKind.i64.wrap 3 = 3 := by decide +kernel
      go_wp2
      go_still_tail 13, (by kernel_rfl)
      still_call (band_energy.same k As cs (seg l0 6 10) e2 _ (Kd.C_below HRS.out (below_drew HB.out)) HCS.out q2.out)
      repeat still_step
      refine wpStill_nil ?_
      change wpList _ _ _ _ _ wr.drew
      have HO2 := Aside0.mk (Kd.R_drew HO.out)
      have HX2 : Aside0 (wr.drew.heap[bx]? = _) := ⟨HX.out⟩
      have HB2 := Aside0.mk (below_drew HB.out)
      clear HO HX HB ca cb hy hz hsl hwr HCS HRS
      generalize wr.drew = wd at HO2 HX2 HB2 ⊢
      obtain ⟨hy, hz⟩ := Kd.R_celln 0 HO2.out 2 (by decide) (by decide)
      simp only [Int.reduceToNat] at hy hz
      have HP := Kd.R_putg HO2.out (2 : Int) e2
      refine store_event (t := 66) (p := 34) (v := ?vo2) (w1 := wd.setCell ⟨go, Int.toNat 2, none⟩ (.int .u64 e2)) ?hg2 ?ho2 ?hn2 ?hr2 ?_
      (case ho2 => rfl); (case hg2 => rfl); (case hn2 => rfl); (case hr2 => first | (go_simp; done) | (go_simp; rfl))
      intro w5 hw
      have hg : wd.grownBy w5 (some go) := by rw [hw]; exact HP.2
      have HO3 : Aside0 (Kd.R (Kd.int .u64) 66 w5 w.heap.size (fun _ => True) (.slice (some ⟨go, 0, none⟩) 8 co) (enUpto [e0, e1, e2, e3, e4, e5, e6, e7] 3)) := ⟨by rw [hw]; exact HP.1⟩
      have HX3 : Aside0 (w5.heap[bx]? = _) := ⟨blk_grown HX2.out hg (Kd.R_ne HO2.out HX2.out (by decide))⟩
      have HB3 : Aside0 (Below w.heap.size w w5) := ⟨by rw [hw]; exact below_set HB2.out GB.out⟩
      clear HP hy hz HO2 HX2 HB2 hg hw
      go_wp2
      go_roundg 5
      case measure => omega
      case rel => exact ⟨3, by decide, by decide, (by first | rfl | (simp; done)), ⟨HO3.out⟩, ⟨HX3.out⟩, ⟨HB3.out⟩⟩
    · obtain ⟨As, cs, hsl, hcs, hCs⟩ := seg_cut HR0.out HC0.out 10 16 (by decide) (by decide) (by omega)
      have HCS := Aside0.mk hcs; have HRS := Aside0.mk hCs
      clear hcs hCs
      obtain rfl : gk = 4 + 1 := by omega
      clear hkb hb0
      have ca : wr.cell? ⟨bx, 3, none⟩ = some (.int .i64 10) := by simp [World.cell?, HX.out]
      have cb : wr.cell? ⟨bx, 4, none⟩ = some (.int .i64 16) := by simp [World.cell?, HX.out]
      obtain ⟨hy, hz⟩ := Kd.R_celln 0 HO.out 3 (by decide) (by decide)
      simp only [Int.reduceToNat] at hy hz
      have hwr : IntKind.i64.wrap 4 = 4 := by decide +kernel
      go_wp2
      go_still_tail 13, (by kernel_rfl)
      still_call (band_energy.same k As cs (seg l0 10 16) e3 _ (Kd.C_below HRS.out (below_drew HB.out)) HCS.out q3.out)
      repeat still_step
      refine wpStill_nil ?_
      change wpList _ _ _ _ _ wr.drew
      have HO2 := Aside0.mk (Kd.R_drew HO.out)
      have HX2 : Aside0 (wr.drew.heap[bx]? = _) := ⟨HX.out⟩
      have HB2 := Aside0.mk (below_drew HB.out)
      clear HO HX HB ca cb hy hz hsl hwr HCS HRS
      generalize wr.drew = wd at HO2 HX2 HB2 ⊢
      obtain ⟨hy, hz⟩ := Kd.R_celln 0 HO2.out 3 (by decide) (by decide)
      simp only [Int.reduceToNat] at hy hz
      have HP := Kd.R_putg HO2.out (3 : Int) e3
      refine store_event (t := 66) (p := 34) (v := ?vo3) (w1 := wd.setCell ⟨go, Int.toNat 3, none⟩ (.int .u64 e3)) ?hg3 ?ho3 ?hn3 ?hr3 ?_
      (case ho3 => rfl); (case hg3 => rfl); (case hn3 => rfl); (case hr3 => first | (go_simp; done) | (go_simp; rfl))
      intro w5 hw
      have hg : wd.grownBy w5 (some go) := by rw [hw]; exact HP.2
      have HO3 : Aside0 (Kd.R (Kd.int .u64) 66 w5 w.heap.size (fun _ => True) (.slice (some ⟨go, 0, none⟩) 8 co) (enUpto [e0, e1, e2, e3, e4, e5, e6, e7] 4)) := ⟨by rw [hw]; exact HP.1⟩
      have HX3 : Aside0 (w5.heap[bx]? = _) := ⟨blk_grown HX2.out hg (Kd.R_ne HO2.out HX2.out (by decide))⟩
      have HB3 : Aside0 (Below w.heap.size w w5) := ⟨by rw [hw]; exact below_set HB2.out GB.out⟩
      clear HP hy hz HO2 HX2 HB2 hg hw
      go_wp2
      go_roundg 4
      case measure => omega
      case rel => exact ⟨4, by decide, by decide, (by first | rfl | (simp; done)), ⟨HO3.out⟩, ⟨HX3.out⟩, ⟨HB3.out⟩⟩
    · obtain ⟨As, cs, hsl, hcs, hCs⟩ := seg_cut HR0.out HC0.out 16 24 (by decide) (by decide) (by omega)
      have HCS := Aside0.mk hcs; have HRS := Aside0.mk hCs
      clear hcs hCs
      obtain rfl : gk = 3 + 1 := by omega
      clear hkb hb0
      have ca : wr.cell? ⟨bx, 4, none⟩ = some (.int .i64 16) := by simp [World.cell?, HX.out]
      have cb : wr.cell? ⟨bx, 5, none⟩ = some (.int .i64 24) := by simp [World.cell?, HX.out]
      obtain ⟨hy, hz⟩ := Kd.R_celln 0 HO.out 4 (by decide) (by decide)
      simp only [Int.reduceToNat] at hy hz
      have hwr : IntKind.i64.wrap 5 = 5 := by decide +kernel
      go_wp2
      go_still_tail 13, (by kernel_rfl)
      still_call (band_energy.same k As cs (seg l0 16 24) e4 _ (Kd.C_below HRS.out (below_drew HB.out)) HCS.out q4.out)
      repeat still_step
      refine wpStill_nil ?_
      change wpList _ _ _ _ _ wr.drew
      have HO2 := Aside0.mk (Kd.R_drew HO.out)
      have HX2 : Aside0 (wr.drew.heap[bx]? = _) := ⟨HX.out⟩
      have HB2 := Aside0.mk (below_drew HB.out)
      clear HO HX HB ca cb hy hz hsl hwr HCS HRS
      generalize wr.drew = wd at HO2 HX2 HB2 ⊢
      obtain ⟨hy, hz⟩ := Kd.R_celln 0 HO2.out 4 (by decide) (by decide)
      simp only [Int.reduceToNat] at hy hz
      have HP := Kd.R_putg HO2.out (4 : Int) e4
      refine store_event (t := 66) (p := 34) (v := ?vo4) (w1 := wd.setCell ⟨go, Int.toNat 4, none⟩ (.int .u64 e4)) ?hg4 ?ho4 ?hn4 ?hr4 ?_
      (case ho4 => rfl); (case hg4 => rfl); (case hn4 => rfl); (case hr4 => first | (go_simp; done) | (go_simp; rfl))
      intro w5 hw
      have hg : wd.grownBy w5 (some go) := by rw [hw]; exact HP.2
      have HO3 : Aside0 (Kd.R (Kd.int .u64) 66 w5 w.heap.size (fun _ => True) (.slice (some ⟨go, 0, none⟩) 8 co) (enUpto [e0, e1, e2, e3, e4, e5, e6, e7] 5)) := ⟨by rw [hw]; exact HP.1⟩
      have HX3 : Aside0 (w5.heap[bx]? = _) := ⟨blk_grown HX2.out hg (Kd.R_ne HO2.out HX2.out (by decide))⟩
      have HB3 : Aside0 (Below w.heap.size w w5) := ⟨by rw [hw]; exact below_set HB2.out GB.out⟩
      clear HP hy hz HO2 HX2 HB2 hg hw
      go_wp2
      go_roundg 3
      case measure => omega
      case rel => exact ⟨5, by decide, by decide, (by first | rfl | (simp; done)), ⟨HO3.out⟩, ⟨HX3.out⟩, ⟨HB3.out⟩⟩
    · obtain ⟨As, cs, hsl, hcs, hCs⟩ := seg_cut HR0.out HC0.out 24 34 (by decide) (by decide) (by omega)
      have HCS := Aside0.mk hcs; have HRS := Aside0.mk hCs
      clear hcs hCs
      obtain rfl : gk = 2 + 1 := by omega
      clear hkb hb0
      have ca : wr.cell? ⟨bx, 5, none⟩ = some (.int .i64 24) := by simp [World.cell?, HX.out]
      have cb : wr.cell? ⟨bx, 6, none⟩ = some (.int .i64 34) := by simp [World.cell?, HX.out]
      obtain ⟨hy, hz⟩ := Kd.R_celln 0 HO.out 5 (by decide) (by decide)
      simp only [Int.reduceToNat] at hy hz
      have hwr : IntKind.i64.wrap 6 = 6 := by decide +kernel
      go_wp2
      go_still_tail 13, (by kernel_rfl)
      still_call (band_energy.same k As cs (seg l0 24 34) e5 _ (Kd.C_below HRS.out (below_drew HB.out)) HCS.out q5.out)
      repeat still_step
      refine wpStill_nil ?_
      change wpList _ _ _ _ _ wr.drew
      have HO2 := Aside0.mk (Kd.R_drew HO.out)
      have HX2 : Aside0 (wr.drew.heap[bx]? = _) := ⟨HX.out⟩
      have HB2 := Aside0.mk (below_drew HB.out)
      clear HO HX HB ca cb hy hz hsl hwr HCS HRS
      generalize wr.drew = wd at HO2 HX2 HB2 ⊢
      obtain ⟨hy, hz⟩ := Kd.R_celln 0 HO2.out 5 (by decide) (by decide)
      simp only [Int.reduceToNat] at hy hz
      have HP := Kd.R_putg HO2.out (5 : Int) e5
      refine store_event (t := 66) (p := 34) (v := ?vo5) (w1 := wd.setCell ⟨go, Int.toNat 5, none⟩ (.int .u64 e5)) ?hg5 ?ho5 ?hn5 ?hr5 ?_
      (case ho5 => rfl); (case hg5 => rfl); (case hn5 => rfl); (case hr5 => first | (go_simp; done) | (go_simp; rfl))
      intro w5 hw
      have hg : wd.grownBy w5 (some go) := by rw [hw]; exact HP.2
      have HO3 : Aside0 (Kd.R (Kd.int .u64) 66 w5 w.heap.size (fun _ => True) (.slice (some ⟨go, 0, none⟩) 8 co) (enUpto [e0, e1, e2, e3, e4, e5, e6, e7] 6)) := ⟨by rw [hw]; exact HP.1⟩
      have HX3 : Aside0 (w5.heap[bx]? = _) := ⟨blk_grown HX2.out hg (Kd.R_ne HO2.out HX2.out (by decide))⟩
      have HB3 : Aside0 (Below w.heap.size w w5) := ⟨by rw [hw]; exact below_set HB2.out GB.out⟩
      clear HP hy hz HO2 HX2 HB2 hg hw
      go_wp2
      go_roundg 2
      case measure => omega
      case rel => exact ⟨6, by decide, by decide, (by first | rfl | (simp; done)), ⟨HO3.out⟩, ⟨HX3.out⟩, ⟨HB3.out⟩⟩
    · obtain ⟨As, cs, hsl, hcs, hCs⟩ := seg_cut HR0.out HC0.out 34 46 (by decide) (by decide) (by omega)
      have HCS := Aside0.mk hcs; have HRS := Aside0.mk hCs
      clear hcs hCs
      obtain rfl : gk = 1 + 1 := by omega
      clear hkb hb0
      have ca : wr.cell? ⟨bx, 6, none⟩ = some (.int .i64 34) := by simp [World.cell?, HX.out]
      have cb : wr.cell? ⟨bx, 7, none⟩ = some (.int .i64 46) := by simp [World.cell?, HX.out]
      obtain ⟨hy, hz⟩ := Kd.R_celln 0 HO.out 6 (by decide) (by decide)
      simp only [Int.reduceToNat] at hy hz
      have hwr : IntKind.i64.wrap 7 = 7 := by decide +kernel
      go_wp2
      go_still_tail 13, (by kernel_rfl)
      still_call (band_energy.same k As cs (seg l0 34 46) e6 _ (Kd.C_below HRS.out (below_drew HB.out)) HCS.out q6.out)
      repeat still_step
      refine wpStill_nil ?_
      change wpList _ _ _ _ _ wr.drew
      have HO2 := Aside0.mk (Kd.R_drew HO.out)
      have HX2 : Aside0 (wr.drew.heap[bx]? = _) := ⟨HX.out⟩
      have HB2 := Aside0.mk (below_drew HB.out)
      clear HO HX HB ca cb hy hz hsl hwr HCS HRS
      generalize wr.drew = wd at HO2 HX2 HB2 ⊢
      obtain ⟨hy, hz⟩ := Kd.R_celln 0 HO2.out 6 (by decide) (by decide)
      simp only [Int.reduceToNat] at hy hz
      have HP := Kd.R_putg HO2.out (6 : Int) e6
      refine store_event (t := 66) (p := 34) (v := ?vo6) (w1 := wd.setCell ⟨go, Int.toNat 6, none⟩ (.int .u64 e6)) ?hg6 ?ho6 ?hn6 ?hr6 ?_
      (case ho6 => rfl); (case hg6 => rfl); (case hn6 => rfl); (case hr6 => first | (go_simp; done) | (go_simp; rfl))
      intro w5 hw
      have hg : wd.grownBy w5 (some go) := by rw [hw]; exact HP.2
      have HO3 : Aside0 (Kd.R (Kd.int .u64) 66 w5 w.heap.size (fun _ => True) (.slice (some ⟨go, 0, none⟩) 8 co) (enUpto [e0, e1, e2, e3, e4, e5, e6, e7] 7)) := ⟨by rw [hw]; exact HP.1⟩
      have HX3 : Aside0 (w5.heap[bx]? = _) := ⟨blk_grown HX2.out hg (Kd.R_ne HO2.out HX2.out (by decide))⟩
      have HB3 : Aside0 (Below w.heap.size w w5) := ⟨by rw [hw]; exact below_set HB2.out GB.out⟩
      clear HP hy hz HO2 HX2 HB2 hg hw
      go_wp2
      go_roundg 1
      case measure => omega
      case rel => exact ⟨7, by decide, by decide, (by first | rfl | (simp; done)), ⟨HO3.out⟩, ⟨HX3.out⟩, ⟨HB3.out⟩⟩
    · obtain ⟨As, cs, hsl, hcs, hCs⟩ := seg_cut HR0.out HC0.out 46 60 (by decide) (by decide) (by omega)
      have HCS := Aside0.mk hcs; have HRS := Aside0.mk hCs
      clear hcs hCs
      obtain rfl : gk = 0 + 1 := by omega
      clear hkb hb0
      have ca : wr.cell? ⟨bx, 7, none⟩ = some (.int .i64 46) := by simp [World.cell?, HX.out]
      have cb : wr.cell? ⟨bx, 8, none⟩ = some (.int .i64 60) := by simp [World.cell?, HX.out]
      obtain ⟨hy, hz⟩ := Kd.R_celln 0 HO.out 7 (by decide) (by decide)
      simp only [Int.reduceToNat] at hy hz
      have hwr : IntKind.i64.wrap 8 = 8 := by decide +kernel
      go_wp2
      go_still_tail 13, (by kernel_rfl)
      still_call (band_energy.same k As cs (seg l0 46 60) e7 _ (Kd.C_below HRS.out (below_drew HB.out)) HCS.out q7.out)
      repeat still_step
      refine wpStill_nil ?_
      change wpList _ _ _ _ _ wr.drew
      have HO2 := Aside0.mk (Kd.R_drew HO.out)
      have HX2 : Aside0 (wr.drew.heap[bx]? = _) := ⟨HX.out⟩
      have HB2 := Aside0.mk (below_drew HB.out)
      clear HO HX HB ca cb hy hz hsl hwr HCS HRS
      generalize wr.drew = wd at HO2 HX2 HB2 ⊢
      obtain ⟨hy, hz⟩ := Kd.R_celln 0 HO2.out 7 (by decide) (by decide)
      simp only [Int.reduceToNat] at hy hz
      have HP := Kd.R_putg HO2.out (7 : Int) e7
      refine store_event (t := 66) (p := 34) (v := ?vo7) (w1 := wd.setCell ⟨go, Int.toNat 7, none⟩ (.int .u64 e7)) ?hg7 ?ho7 ?hn7 ?hr7 ?_
      (case ho7 => rfl); (case hg7 => rfl); (case hn7 => rfl); (case hr7 => first | (go_simp; done) | (go_simp; rfl))
      intro w5 hw
      have hg : wd.grownBy w5 (some go) := by rw [hw]; exact HP.2
      have HO3 : Aside0 (Kd.R (Kd.int .u64) 66 w5 w.heap.size (fun _ => True) (.slice (some ⟨go, 0, none⟩) 8 co) (enUpto [e0, e1, e2, e3, e4, e5, e6, e7] 8)) := ⟨by rw [hw]; exact HP.1⟩
      have HX3 : Aside0 (w5.heap[bx]? = _) := ⟨blk_grown HX2.out hg (Kd.R_ne HO2.out HX2.out (by decide))⟩
      have HB3 : Aside0 (Below w.heap.size w w5) := ⟨by rw [hw]; exact below_set HB2.out GB.out⟩
      clear HP hy hz HO2 HX2 HB2 hg hw
      go_wp2
      go_roundg 0
      case measure => omega
      case rel => exact ⟨8, by decide, by decide, (by first | rfl | (simp; done)), ⟨HO3.out⟩, ⟨HX3.out⟩, ⟨HB3.out⟩⟩
    · clear hkb hb0
      go_wp2
      go_ret2
      exact ⟨_, rfl, HO.out, HB.out⟩
theorem band_edges.at80 (m : Int) (h1 : 80 ≤ m) (h2 : m ≤ 80) (w : World) : Calls Try.prog 54 #[.int .i64 m] w fun e w' => e = .returned (.tuple #[.agg #[.int .i64 0, .int .i64 4, .int .i64 8, .int .i64 14, .int .i64 22, .int .i64 32, .int .i64 46, .int .i64 62, .int .i64 80], .bool true]) ∧ Below w.heap.size w w' := by
  obtain rfl : m = 80 := by omega
  exact band_edges.calls80 w
set_option maxHeartbeats 8000000 in
set_option maxRecDepth 100000 in
theorem band_Energies.calls80 (k : Nat) (A0 : Option Addr) (c0 : Nat) (l0 : List Int) (e0 e1 e2 e3 e4 e5 e6 e7 : Int) (w : World) (hr0 : Kd.C (Kd.int .i32) w A0 l0.length l0) (hc0 : l0.length ≤ c0) (hn : l0.length = 80)
    (q0 : Aside0 (band_energy.f k (seg l0 0 4) = some e0)) (q1 : Aside0 (band_energy.f k (seg l0 4 8) = some e1)) (q2 : Aside0 (band_energy.f k (seg l0 8 14) = some e2)) (q3 : Aside0 (band_energy.f k (seg l0 14 22) = some e3)) (q4 : Aside0 (band_energy.f k (seg l0 22 32) = some e4)) (q5 : Aside0 (band_energy.f k (seg l0 32 46) = some e5)) (q6 : Aside0 (band_energy.f k (seg l0 46 62) = some e6)) (q7 : Aside0 (band_energy.f k (seg l0 62 80) = some e7)) :
    Calls Try.prog 42 #[.slice A0 l0.length c0] w fun e w' => ∃ v0_ : Value, e = .returned (.tuple #[v0_, .int .i64 0]) ∧ Kd.R (Kd.int .u64) 66 w' w.heap.size (fun _ => True) v0_ [e0, e1, e2, e3, e4, e5, e6, e7] ∧ Below w.heap.size w w' := by
  have HR0 := Aside0.mk hr0
  have HC0 := Aside0.mk hc0
  clear hr0 hc0
  have hn1 : 80 ≤ l0.length := by omega
  have hn2 : l0.length ≤ 80 := by omega
  clear hn
  have HB := Aside0.mk (Below.refl w.heap.size w)
  go_enter Try.func42, Try.ntmps42
  go_wp2_with (first | (go_at_call 54; refine (band_edges.at80 _ (by omega) (by omega) _).mono ?_; rintro e w1 ⟨rfl, hb⟩; have n1_ := Aside0.mk (below_alloc hb (.cells #[.int .i64 0, .int .i64 4, .int .i64 8, .int .i64 14, .int .i64 22, .int .i64 32, .int .i64 46, .int .i64 62, .int .i64 80] 85)); have nb_ := Aside0.mk (blk_new w1 (.cells #[.int .i64 0, .int .i64 4, .int .i64 8, .int .i64 14, .int .i64 22, .int .i64 32, .int .i64 46, .int .i64 62, .int .i64 80] 85)); clear HB; have HB := n1_; have HX := nb_; clear n1_ nb_ hb) | ((with_reducible refine gate_dst (N := 16) rfl ?_); refine Kd.R_make (Kd.int .u64) _ 66 rfl (N := 16) rfl 70 _ _ rfl 8 rfl rfl Try.underlying70 (.int .u64 0) 8 info66 rfl (by decide) (by omega) 0 (ok := fun _ => True) (okp := fun _ => True) rfl (fun _ hk => hk) trivial (by omega) (by omega) (Below.refl _ _) (Nat.le_refl _) ?_; intro v102 w3 ho4 hb hg_ hnew_; clear hg_ hnew_; simp only [Int.reduceToNat] at ho4; have n0_ := Aside0.mk (Kd.R_lower ho4 (below_size HB.out)); have n1_ := Aside0.mk (below_step HB.out hb); have nb_ := Aside0.mk ((hb.block _ (blk_lt HX.out)).trans HX.out); clear HB HX; have HO := n0_; have HB := n1_; have HX := nb_; clear n0_ n1_ nb_; clear hb ho4; obtain ⟨go, co, eo, gb, gl, cl, HG⟩ := Kd.R_form HO.out (by decide); subst eo; have GB := Aside0.mk gb; clear gb gl HG cl))
  generalize hbx : w1.heap.size = bx at HX ⊢
  clear hbx
  go_loopg [7, 19, 21, 22, 23, 24, 25, 26, 27, 28, 29, 30, 31, 32, 33, 34] 8 (fun kq v7 v19 v21 v22 v23 v24 v25 v26 v27 v28 v29 v30 v31 v32 v33 v34 w' => ∃ b : Int, (kq : Int) + b = 8 ∧ 0 ≤ b ∧ v19 = .int .i64 b ∧ Aside0 (Kd.R (Kd.int .u64) 66 w' w.heap.size (fun _ => True) (.slice (some ⟨go, 0, none⟩) 8 co) (enUpto [e0, e1, e2, e3, e4, e5, e6, e7] b)) ∧ Aside0 (w'.heap[bx]? = some (.cells #[.int .i64 0, .int .i64 4, .int .i64 8, .int .i64 14, .int .i64 22, .int .i64 32, .int .i64 46, .int .i64 62, .int .i64 80] 85 (0, 0))) ∧ Aside0 (Below w.heap.size w w'))
  case atStart => exact ⟨0, rfl, Int.le_refl _, rfl, ⟨HO.out⟩, ⟨HX.out⟩, ⟨HB.out⟩⟩
  case round =>
    clear HO HX HB
    obtain ⟨b, hkb, hb0, rfl, HO, HX, HB⟩ := hrel
    have hb8 : b = 0 ∨ b = 1 ∨ b = 2 ∨ b = 3 ∨ b = 4 ∨ b = 5 ∨ b = 6 ∨ b = 7 ∨ b = 8 := by omega
    rcases hb8 with rfl | rfl | rfl | rfl | rfl | rfl | rfl | rfl | rfl
    · obtain ⟨As, cs, hsl, hcs, hCs⟩ := seg_cut HR0.out HC0.out 0 4 (by decide) (by decide) (by omega)
      have HCS := Aside0.mk hcs; have HRS := Aside0.mk hCs
      clear hcs hCs
      obtain rfl : gk = 7 + 1 := by omega
      clear hkb hb0
      have ca : wr.cell? ⟨bx, 0, none⟩ = some (.int .i64 0) := by simp [World.cell?, HX.out]
      have cb : wr.cell? ⟨bx, 1, none⟩ = some (.int .i64 4) := by simp [World.cell?, HX.out]
      obtain ⟨hy, hz⟩ := Kd.R_celln 0 HO.out 0 (by decide) (by decide)
      simp only [Int.reduceToNat] at hy hz
      have hwr : IntKind.i64.wrap 1 = 1 := by decide +kernel
      go_wp2
      go_still_tail 13, (by kernel_rfl)
      still_call (band_energy.same k As cs (seg l0 0 4) e0 _ (Kd.C_below HRS.out (below_drew HB.out)) HCS.out q0.out)
      repeat still_step
      refine wpStill_nil ?_
      change wpList _ _ _ _ _ wr.drew
      have HO2 := Aside0.mk (Kd.R_drew HO.out)
      have HX2 : Aside0 (wr.drew.heap[bx]? = _) := ⟨HX.out⟩
      have HB2 := Aside0.mk (below_drew HB.out)
      clear HO HX HB ca cb hy hz hsl hwr HCS HRS
      generalize wr.drew = wd at HO2 HX2 HB2 ⊢
      obtain ⟨hy, hz⟩ := Kd.R_celln 0 HO2.out 0 (by decide) (by decide)
      simp only [Int.reduceToNat] at hy hz
      have HP := Kd.R_putg HO2.out (0 : Int) e0
      refine store_event (t := 66) (p := 34) (v := ?vo0) (w1 := wd.setCell ⟨go, Int.toNat 0, none⟩ (.int .u64 e0)) ?hg0 ?ho0 ?hn0 ?hr0 ?_
      (case ho0 => rfl); (case hg0 => rfl); (case hn0 => rfl); (case hr0 => first | (go_simp; done) | (go_simp; rfl))
      intro w5 hw
      have hg : wd.grownBy w5 (some go) := by rw [hw]; exact HP.2
      have HO3 : Aside0 (Kd.R (Kd.int .u64) 66 w5 w.heap.size (fun _ => True) (.slice (some ⟨go, 0, none⟩) 8 co) (enUpto [e0, e1, e2, e3, e4, e5, e6, e7] 1)) := ⟨by rw [hw]; exact HP.1⟩
      have HX3 : Aside0 (w5.heap[bx]? = _) := ⟨blk_grown HX2.out hg (Kd.R_ne HO2.out HX2.out (by decide))⟩
      have HB3 : Aside0 (Below w.heap.size w w5) := ⟨by rw [hw]; exact below_set HB2.out GB.out⟩
      clear HP hy hz HO2 HX2 HB2 hg hw
      go_wp2
      go_roundg 7
      case measure => omega
      case rel => exact ⟨1, by decide, by decide, (by first | rfl | (simp; done)), ⟨HO3.out⟩, ⟨HX3.out⟩, ⟨HB3.out⟩⟩
    · obtain ⟨As, cs, hsl, hcs, hCs⟩ := seg_cut HR0.out HC0.out 4 8 (by decide) (by decide) (by omega)
      have HCS := Aside0.mk hcs; have HRS := Aside0.mk hCs
      clear hcs hCs
      obtain rfl : gk = 6 + 1 := by omega
      clear hkb hb0
      have ca : wr.cell? ⟨bx, 1, none⟩ = some (.int .i64 4) := by simp [World.cell?, HX.out]
      have cb : wr.cell? ⟨bx, 2, none⟩ = some (.int .i64 8) := by simp [World.cell?, HX.out]
      obtain ⟨hy, hz⟩ := Kd.R_celln 0 HO.out 1 (by decide) (by decide)
      simp only [Int.reduceToNat] at hy hz
      have hwr : IntKind.i64.wrap 2 = 2 := by decide +kernel
      go_wp2
      go_still_tail 13, (by kernel_rfl)
      still_call (band_energy.same k As cs (seg l0 4 8) e1 _ (Kd.C_below HRS.out (below_drew HB.out)) HCS.out q1.out)
      repeat still_step
      refine wpStill_nil ?_
      change wpList _ _ _ _ _ wr.drew
      have HO2 := Aside0.mk (Kd.R_drew HO.out)
      have HX2 : Aside0 (wr.drew.heap[bx]? = _) := ⟨HX.out⟩
      have HB2 := Aside0.mk (below_drew HB.out)
      clear HO HX HB ca cb hy hz hsl hwr HCS HRS
      generalize wr.drew = wd at HO2 HX2 HB2 ⊢
      obtain ⟨hy, hz⟩ := Kd.R_celln 0 HO2.out 1 (by decide) (by decide)
      simp only [Int.reduceToNat] at hy hz
      have HP := Kd.R_putg HO2.out (1 : Int) e1
      refine store_event (t := 66) (p := 34) (v := ?vo1) (w1 := wd.setCell ⟨go, Int.toNat 1, none⟩ (.int .u64 e1)) ?hg1 ?ho1 ?hn1 ?hr1 ?_
      (case ho1 => rfl); (case hg1 => rfl); (case hn1 => rfl); (case hr1 => first | (go_simp; done) | (go_simp; rfl))
      intro w5 hw
      have hg : wd.grownBy w5 (some go) := by rw [hw]; exact HP.2
      have HO3 : Aside0 (Kd.R (Kd.int .u64) 66 w5 w.heap.size (fun _ => True) (.slice (some ⟨go, 0, none⟩) 8 co) (enUpto [e0, e1, e2, e3, e4, e5, e6, e7] 2)) := ⟨by rw [hw]; exact HP.1⟩
      have HX3 : Aside0 (w5.heap[bx]? = _) := ⟨blk_grown HX2.out hg (Kd.R_ne HO2.out HX2.out (by decide))⟩
      have HB3 : Aside0 (Below w.heap.size w w5) := ⟨by rw [hw]; exact below_set HB2.out GB.out⟩
      clear HP hy hz HO2 HX2 HB2 hg hw
      go_wp2
      go_roundg 6
      case measure => omega
      case rel => exact ⟨2, by decide, by decide, (by first | rfl | (simp; done)), ⟨HO3.out⟩, ⟨HX3.out⟩, ⟨HB3.out⟩⟩
    · obtain ⟨As, cs, hsl, hcs, hCs⟩ := seg_cut HR0.out HC0.out 8 14 (by decide) (by decide) (by omega)
      have HCS := Aside0.mk hcs; have HRS := Aside0.mk hCs
      clear hcs hCs
      obtain rfl : gk = 5 + 1 := by omega
      clear hkb hb0
      have ca : wr.cell? ⟨bx, 2, none⟩ = some (.int .i64 8) := by simp [World.cell?, HX.out]
      have cb : wr.cell? ⟨bx, 3, none⟩ = some (.int .i64 14) := by simp [World.cell?, HX.out]
      obtain ⟨hy, hz⟩ := Kd.R_celln 0 HO.out 2 (by decide) (by decide)
      simp only [Int.reduceToNat] at hy hz
      have hwr : IntKind.i64.wrap 3 = 3 := by decide +kernel
      go_wp2
      go_still_tail 13, (by kernel_rfl)
      still_call (band_energy.same k As cs (seg l0 8 14) e2 _ (Kd.C_below HRS.out (below_drew HB.out)) HCS.out q2.out)
      repeat still_step
      refine wpStill_nil ?_
      change wpList _ _ _ _ _ wr.drew
      have HO2 := Aside0.mk (Kd.R_drew HO.out)
      have HX2 : Aside0 (wr.drew.heap[bx]? = _) := ⟨HX.out⟩
      have HB2 := Aside0.mk (below_drew HB.out)
      clear HO HX HB ca cb hy hz hsl hwr HCS HRS
      generalize wr.drew = wd at HO2 HX2 HB2 ⊢
      obtain ⟨hy, hz⟩ := Kd.R_celln 0 HO2.out 2 (by decide) (by decide)
      simp only [Int.reduceToNat] at hy hz
      have HP := Kd.R_putg HO2.out (2 : Int) e2
      refine store_event (t := 66) (p := 34) (v := ?vo2) (w1 := wd.setCell ⟨go, Int.toNat 2, none⟩ (.int .u64 e2)) ?hg2 ?ho2 ?hn2 ?hr2 ?_
      (case ho2 => rfl); (case hg2 => rfl); (case hn2 => rfl); (case hr2 => first | (go_simp; done) | (go_simp; rfl))
      intro w5 hw
      have hg : wd.grownBy w5 (some go) := by rw [hw]; exact HP.2
      have HO3 : Aside0 (Kd.R (Kd.int .u64) 66 w5 w.heap.size (fun _ => True) (.slice (some ⟨go, 0, none⟩) 8 co) (enUpto [e0, e1, e2, e3, e4, e5, e6, e7] 3)) := ⟨by rw [hw]; exact HP.1⟩
      have HX3 : Aside0 (w5.heap[bx]? = _) := ⟨blk_grown HX2.out hg (Kd.R_ne HO2.out HX2.out (by decide))⟩
      have HB3 : Aside0 (Below w.heap.size w w5) := ⟨by rw [hw]; exact below_set HB2.out GB.out⟩
      clear HP hy hz HO2 HX2 HB2 hg hw
      go_wp2
      go_roundg 5
      case measure => omega
      case rel => exact ⟨3, by decide, by decide, (by first | rfl | (simp; done)), ⟨HO3.out⟩, ⟨HX3.out⟩, ⟨HB3.out⟩⟩
    · obtain ⟨As, cs, hsl, hcs, hCs⟩ := seg_cut HR0.out HC0.out 14 22 (by decide) (by decide) (by omega)
      have HCS := Aside0.mk hcs; have HRS := Aside0.mk hCs
      clear hcs hCs
      obtain rfl : gk = 4 + 1 := by omega
      clear hkb hb0
      have ca : wr.cell? ⟨bx, 3, none⟩ = some (.int .i64 14) := by simp [World.cell?, HX.out]
      have cb : wr.cell? ⟨bx, 4, none⟩ = some (.int .i64 22) := by simp [World.cell?, HX.out]
      obtain ⟨hy, hz⟩ := Kd.R_celln 0 HO.out 3 (by decide) (by decide)
      simp only [Int.reduceToNat] at hy hz
      have hwr : IntKind.i64.wrap 4 = 4 := by decide +kernel
      go_wp2
      go_still_tail 13, (by kernel_rfl)
      still_call (band_energy.same k As cs (seg l0 14 22) e3 _ (Kd.C_below HRS.out (below_drew HB.out)) HCS.out q3.out)
      repeat still_step
      refine wpStill_nil ?_
      change wpList _ _ _ _ _ wr.drew
      have HO2 := Aside0.mk (Kd.R_drew HO.out)
      have HX2 : Aside0 (wr.drew.heap[bx]? = _) := ⟨HX.out⟩
      have HB2 := Aside0.mk (below_drew HB.out)
      clear HO HX HB ca cb hy hz hsl hwr HCS HRS
      generalize wr.drew = wd at HO2 HX2 HB2 ⊢
      obtain ⟨hy, hz⟩ := Kd.R_celln 0 HO2.out 3 (by decide) (by decide)
      simp only [Int.reduceToNat] at hy hz
      have HP := Kd.R_putg HO2.out (3 : Int) e3
      refine store_event (t := 66) (p := 34) (v := ?vo3) (w1 := wd.setCell ⟨go, Int.toNat 3, none⟩ (.int .u64 e3)) ?hg3 ?ho3 ?hn3 ?hr3 ?_
      (case ho3 => rfl); (case hg3 => rfl); (case hn3 => rfl); (case hr3 => first | (go_simp; done) | (go_simp; rfl))
      intro w5 hw
      have hg : wd.grownBy w5 (some go) := by rw [hw]; exact HP.2
      have HO3 : Aside0 (Kd.R (Kd.int .u64) 66 w5 w.heap.size (fun _ => True) (.slice (some ⟨go, 0, none⟩) 8 co) (enUpto [e0, e1, e2, e3, e4, e5, e6, e7] 4)) := ⟨by rw [hw]; exact HP.1⟩
      have HX3 : Aside0 (w5.heap[bx]? = _) := ⟨blk_grown HX2.out hg (Kd.R_ne HO2.out HX2.out (by decide))⟩
      have HB3 : Aside0 (Below w.heap.size w w5) := ⟨by rw [hw]; exact below_set HB2.out GB.out⟩
      clear HP hy hz HO2 HX2 HB2 hg hw
      go_wp2
      go_roundg 4
      case measure => omega
      case rel => exact ⟨4, by decide, by decide, (by first | rfl | (simp; done)), ⟨HO3.out⟩, ⟨HX3.out⟩, ⟨HB3.out⟩⟩
    · obtain ⟨As, cs, hsl, hcs, hCs⟩ := seg_cut HR0.out HC0.out 22 32 (by decide) (by decide) (by omega)
      have HCS := Aside0.mk hcs; have HRS := Aside0.mk hCs
      clear hcs hCs
      obtain rfl : gk = 3 + 1 := by omega
      clear hkb hb0
      have ca : wr.cell? ⟨bx, 4, none⟩ = some (.int .i64 22) := by simp [World.cell?, HX.out]
      have cb : wr.cell? ⟨bx, 5, none⟩ = some (.int .i64 32) := by simp [World.cell?, HX.out]
      obtain ⟨hy, hz⟩ := Kd.R_celln 0 HO.out 4 (by decide) (by decide)
      simp only [Int.reduceToNat] at hy hz
      have hwr : IntKind.i64.wrap 5 = 5 := by decide +kernel
      go_wp2
      go_still_tail 13, (by kernel_rfl)
      still_call (band_energy.same k As cs (seg l0 22 32) e4 _ (Kd.C_below HRS.out (below_drew HB.out)) HCS.out q4.out)
      repeat still_step
      refine wpStill_nil ?_
      change wpList _ _ _ _ _ wr.drew
      have HO2 := Aside0.mk (Kd.R_drew HO.out)
      have HX2 : Aside0 (wr.drew.heap[bx]? = _) := ⟨HX.out⟩
      have HB2 := Aside0.mk (below_drew HB.out)
      clear HO HX HB ca cb hy hz hsl hwr HCS HRS
      generalize wr.drew = wd at HO2 HX2 HB2 ⊢
      obtain ⟨hy, hz⟩ := Kd.R_celln 0 HO2.out 4 (by decide) (by decide)
      simp only [Int.reduceToNat] at hy hz
      have HP := Kd.R_putg HO2.out (4 : Int) e4
      refine store_event (t := 66) (p := 34) (v := ?vo4) (w1 := wd.setCell ⟨go, Int.toNat 4, none⟩ (.int .u64 e4)) ?hg4 ?ho4 ?hn4 ?hr4 ?_
      (case ho4 => rfl); (case hg4 => rfl); (case hn4 => rfl); (case hr4 => first | (go_simp; done) | (go_simp; rfl))
      intro w5 hw
      have hg : wd.grownBy w5 (some go) := by rw [hw]; exact HP.2
      have HO3 : Aside0 (Kd.R (Kd.int .u64) 66 w5 w.heap.size (fun _ => True) (.slice (some ⟨go, 0, none⟩) 8 co) (enUpto [e0, e1, e2, e3, e4, e5, e6, e7] 5)) := ⟨by rw [hw]; exact HP.1⟩
      have HX3 : Aside0 (w5.heap[bx]? = _) := ⟨blk_grown HX2.out hg (Kd.R_ne HO2.out HX2.out (by decide))⟩
      have HB3 : Aside0 (Below w.heap.size w w5) := ⟨by rw [hw]; exact below_set HB2.out GB.out⟩
      clear HP hy hz HO2 HX2 HB2 hg hw
      go_wp2
      go_roundg 3
      case measure => omega
      case rel => exact ⟨5, by decide, by decide, (by first | rfl | (simp; done)), ⟨HO3.out⟩, ⟨HX3.out⟩, ⟨HB3.out⟩⟩
    · obtain ⟨As, cs, hsl, hcs, hCs⟩ := seg_cut HR0.out HC0.out 32 46 (by decide) (by decide) (by omega)
      have HCS := Aside0.mk hcs; have HRS := Aside0.mk hCs
      clear hcs hCs
      obtain rfl : gk = 2 + 1 := by omega
      clear hkb hb0
      have ca : wr.cell? ⟨bx, 5, none⟩ = some (.int .i64 32) := by simp [World.cell?, HX.out]
      have cb : wr.cell? ⟨bx, 6, none⟩ = some (.int .i64 46) := by simp [World.cell?, HX.out]
      obtain ⟨hy, hz⟩ := Kd.R_celln 0 HO.out 5 (by decide) (by decide)
      simp only [Int.reduceToNat] at hy hz
      have hwr : IntKind.i64.wrap 6 = 6 := by decide +kernel
      go_wp2
      go_still_tail 13, (by kernel_rfl)
      still_call (band_energy.same k As cs (seg l0 32 46) e5 _ (Kd.C_below HRS.out (below_drew HB.out)) HCS.out q5.out)
      repeat still_step
      refine wpStill_nil ?_
      change wpList _ _ _ _ _ wr.drew
      have HO2 := Aside0.mk (Kd.R_drew HO.out)
      have HX2 : Aside0 (wr.drew.heap[bx]? = _) := ⟨HX.out⟩
      have HB2 := Aside0.mk (below_drew HB.out)
      clear HO HX HB ca cb hy hz hsl hwr HCS HRS
      generalize wr.drew = wd at HO2 HX2 HB2 ⊢
      obtain ⟨hy, hz⟩ := Kd.R_celln 0 HO2.out 5 (by decide) (by decide)
      simp only [Int.reduceToNat] at hy hz
      have HP := Kd.R_putg HO2.out (5 : Int) e5
      refine store_event (t := 66) (p := 34) (v := ?vo5) (w1 := wd.setCell ⟨go, Int.toNat 5, none⟩ (.int .u64 e5)) ?hg5 ?ho5 ?hn5 ?hr5 ?_
      (case ho5 => rfl); (case hg5 => rfl); (case hn5 => rfl); (case hr5 => first | (go_simp; done) | (go_simp; rfl))
      intro w5 hw
      have hg : wd.grownBy w5 (some go) := by rw [hw]; exact HP.2
      have HO3 : Aside0 (Kd.R (Kd.int .u64) 66 w5 w.heap.size (fun _ => True) (.slice (some ⟨go, 0, none⟩) 8 co) (enUpto [e0, e1, e2, e3, e4, e5, e6, e7] 6)) := ⟨by rw [hw]; exact HP.1⟩
      have HX3 : Aside0 (w5.heap[bx]? = _) := ⟨blk_grown HX2.out hg (Kd.R_ne HO2.out HX2.out (by decide))⟩
      have HB3 : Aside0 (Below w.heap.size w w5) := ⟨by rw [hw]; exact below_set HB2.out GB.out⟩
      clear HP hy hz HO2 HX2 HB2 hg hw
      go_wp2
      go_roundg 2
      case measure => omega
      case rel => exact ⟨6, by decide, by decide, (by first | rfl | (simp; done)), ⟨HO3.out⟩, ⟨HX3.out⟩, ⟨HB3.out⟩⟩
    · obtain ⟨As, cs, hsl, hcs, hCs⟩ := seg_cut HR0.out HC0.out 46 62 (by decide) (by decide) (by omega)
      have HCS := Aside0.mk hcs; have HRS := Aside0.mk hCs
      clear hcs hCs
      obtain rfl : gk = 1 + 1 := by omega
      clear hkb hb0
      have ca : wr.cell? ⟨bx, 6, none⟩ = some (.int .i64 46) := by simp [World.cell?, HX.out]
      have cb : wr.cell? ⟨bx, 7, none⟩ = some (.int .i64 62) := by simp [World.cell?, HX.out]
      obtain ⟨hy, hz⟩ := Kd.R_celln 0 HO.out 6 (by decide) (by decide)
      simp only [Int.reduceToNat] at hy hz
      have hwr : IntKind.i64.wrap 7 = 7 := by decide +kernel
      go_wp2
      go_still_tail 13, (by kernel_rfl)
      still_call (band_energy.same k As cs (seg l0 46 62) e6 _ (Kd.C_below HRS.out (below_drew HB.out)) HCS.out q6.out)
      repeat still_step
      refine wpStill_nil ?_
      change wpList _ _ _ _ _ wr.drew
      have HO2 := Aside0.mk (Kd.R_drew HO.out)
      have HX2 : Aside0 (wr.drew.heap[bx]? = _) := ⟨HX.out⟩
      have HB2 := Aside0.mk (below_drew HB.out)
      clear HO HX HB ca cb hy hz hsl hwr HCS HRS
      generalize wr.drew = wd at HO2 HX2 HB2 ⊢
      obtain ⟨hy, hz⟩ := Kd.R_celln 0 HO2.out 6 (by decide) (by decide)
      simp only [Int.reduceToNat] at hy hz
      have HP := Kd.R_putg HO2.out (6 : Int) e6
      refine store_event (t := 66) (p := 34) (v := ?vo6) (w1 := wd.setCell ⟨go, Int.toNat 6, none⟩ (.int .u64 e6)) ?hg6 ?ho6 ?hn6 ?hr6 ?_
      (case ho6 => rfl); (case hg6 => rfl); (case hn6 => rfl); (case hr6 => first | (go_simp; done) | (go_simp; rfl))
      intro w5 hw
      have hg : wd.grownBy w5 (some go) := by rw [hw]; exact HP.2
      have HO3 : Aside0 (Kd.R (Kd.int .u64) 66 w5 w.heap.size (fun _ => True) (.slice (some ⟨go, 0, none⟩) 8 co) (enUpto [e0, e1, e2, e3, e4, e5, e6, e7] 7)) := ⟨by rw [hw]; exact HP.1⟩
      have HX3 : Aside0 (w5.heap[bx]? = _) := ⟨blk_grown HX2.out hg (Kd.R_ne HO2.out HX2.out (by decide))⟩
      have HB3 : Aside0 (Below w.heap.size w w5) := ⟨by rw [hw]; exact below_set HB2.out GB.out⟩
      clear HP hy hz HO2 HX2 HB2 hg hw
      go_wp2
      go_roundg 1
      case measure => omega
      case rel => exact ⟨7, by decide, by decide, (by first | rfl | (simp; done)), ⟨HO3.out⟩, ⟨HX3.out⟩, ⟨HB3.out⟩⟩
    · obtain ⟨As, cs, hsl, hcs, hCs⟩ := seg_cut HR0.out HC0.out 62 80 (by decide) (by decide) (by omega)
      have HCS := Aside0.mk hcs; have HRS := Aside0.mk hCs
      clear hcs hCs
      obtain rfl : gk = 0 + 1 := by omega
      clear hkb hb0
      have ca : wr.cell? ⟨bx, 7, none⟩ = some (.int .i64 62) := by simp [World.cell?, HX.out]
      have cb : wr.cell? ⟨bx, 8, none⟩ = some (.int .i64 80) := by simp [World.cell?, HX.out]
      obtain ⟨hy, hz⟩ := Kd.R_celln 0 HO.out 7 (by decide) (by decide)
      simp only [Int.reduceToNat] at hy hz
      have hwr : IntKind.i64.wrap 8 = 8 := by decide +kernel
      go_wp2
      go_still_tail 13, (by kernel_rfl)
      still_call (band_energy.same k As cs (seg l0 62 80) e7 _ (Kd.C_below HRS.out (below_drew HB.out)) HCS.out q7.out)
      repeat still_step
      refine wpStill_nil ?_
      change wpList _ _ _ _ _ wr.drew
      have HO2 := Aside0.mk (Kd.R_drew HO.out)
      have HX2 : Aside0 (wr.drew.heap[bx]? = _) := ⟨HX.out⟩
      have HB2 := Aside0.mk (below_drew HB.out)
      clear HO HX HB ca cb hy hz hsl hwr HCS HRS
      generalize wr.drew = wd at HO2 HX2 HB2 ⊢
      obtain ⟨hy, hz⟩ := Kd.R_celln 0 HO2.out 7 (by decide) (by decide)
      simp only [Int.reduceToNat] at hy hz
      have HP := Kd.R_putg HO2.out (7 : Int) e7
      refine store_event (t := 66) (p := 34) (v := ?vo7) (w1 := wd.setCell ⟨go, Int.toNat 7, none⟩ (.int .u64 e7)) ?hg7 ?ho7 ?hn7 ?hr7 ?_
      (case ho7 => rfl); (case hg7 => rfl); (case hn7 => rfl); (case hr7 => first | (go_simp; done) | (go_simp; rfl))
      intro w5 hw
      have hg : wd.grownBy w5 (some go) := by rw [hw]; exact HP.2
      have HO3 : Aside0 (Kd.R (Kd.int .u64) 66 w5 w.heap.size (fun _ => True) (.slice (some ⟨go, 0, none⟩) 8 co) (enUpto [e0, e1, e2, e3, e4, e5, e6, e7] 8)) := ⟨by rw [hw]; exact HP.1⟩
      have HX3 : Aside0 (w5.heap[bx]? = _) := ⟨blk_grown HX2.out hg (Kd.R_ne HO2.out HX2.out (by decide))⟩
      have HB3 : Aside0 (Below w.heap.size w w5) := ⟨by rw [hw]; exact below_set HB2.out GB.out⟩
      clear HP hy hz HO2 HX2 HB2 hg hw
      go_wp2
      go_roundg 0
      case measure => omega
      case rel => exact ⟨8, by decide, by decide, (by first | rfl | (simp; done)), ⟨HO3.out⟩, ⟨HX3.out⟩, ⟨HB3.out⟩⟩
    · clear hkb hb0
      go_wp2
      go_ret2
      exact ⟨_, rfl, HO.out, HB.out⟩
theorem band_edges.at120 (m : Int) (h1 : 120 ≤ m) (h2 : m ≤ 120) (w : World) : Calls Try.prog 54 #[.int .i64 m] w fun e w' => e = .returned (.tuple #[.agg #[.int .i64 0, .int .i64 6, .int .i64 12, .int .i64 21, .int .i64 33, .int .i64 48, .int .i64 69, .int .i64 93, .int .i64 120], .bool true]) ∧ Below w.heap.size w w' := by
  obtain rfl : m = 120 := by omega
  exact band_edges.calls120 w
set_option maxHeartbeats 8000000 in
set_option maxRecDepth 100000 in
theorem band_Energies.calls120 (k : Nat) (A0 : Option Addr) (c0 : Nat) (l0 : List Int) (e0 e1 e2 e3 e4 e5 e6 e7 : Int) (w : World) (hr0 : Kd.C (Kd.int .i32) w A0 l0.length l0) (hc0 : l0.length ≤ c0) (hn : l0.length = 120)
    (q0 : Aside0 (band_energy.f k (seg l0 0 6) = some e0)) (q1 : Aside0 (band_energy.f k (seg l0 6 12) = some e1)) (q2 : Aside0 (band_energy.f k (seg l0 12 21) = some e2)) (q3 : Aside0 (band_energy.f k (seg l0 21 33) = some e3)) (q4 : Aside0 (band_energy.f k (seg l0 33 48) = some e4)) (q5 : Aside0 (band_energy.f k (seg l0 48 69) = some e5)) (q6 : Aside0 (band_energy.f k (seg l0 69 93) = some e6)) (q7 : Aside0 (band_energy.f k (seg l0 93 120) = some e7)) :
    Calls Try.prog 42 #[.slice A0 l0.length c0] w fun e w' => ∃ v0_ : Value, e = .returned (.tuple #[v0_, .int .i64 0]) ∧ Kd.R (Kd.int .u64) 66 w' w.heap.size (fun _ => True) v0_ [e0, e1, e2, e3, e4, e5, e6, e7] ∧ Below w.heap.size w w' := by
  have HR0 := Aside0.mk hr0
  have HC0 := Aside0.mk hc0
  clear hr0 hc0
  have hn1 : 120 ≤ l0.length := by omega
  have hn2 : l0.length ≤ 120 := by omega
  clear hn
  have HB := Aside0.mk (Below.refl w.heap.size w)
  go_enter Try.func42, Try.ntmps42
  go_wp2_with (first | (go_at_call 54; refine (band_edges.at120 _ (by omega) (by omega) _).mono ?_; rintro e w1 ⟨rfl, hb⟩; have n1_ := Aside0.mk (below_alloc hb (.cells #[.int .i64 0, .int .i64 6, .int .i64 12, .int .i64 21, .int .i64 33, .int .i64 48, .int .i64 69, .int .i64 93, .int .i64 120] 85)); have nb_ := Aside0.mk (blk_new w1 (.cells #[.int .i64 0, .int .i64 6, .int .i64 12, .int .i64 21, .int .i64 33, .int .i64 48, .int .i64 69, .int .i64 93, .int .i64 120] 85)); clear HB; have HB := n1_; have HX := nb_; clear n1_ nb_ hb) | ((with_reducible refine gate_dst (N := 16) rfl ?_); refine Kd.R_make (Kd.int .u64) _ 66 rfl (N := 16) rfl 70 _ _ rfl 8 rfl rfl Try.underlying70 (.int .u64 0) 8 info66 rfl (by decide) (by omega) 0 (ok := fun _ => True) (okp := fun _ => True) rfl (fun _ hk => hk) trivial (by omega) (by omega) (Below.refl _ _) (Nat.le_refl _) ?_; intro v102 w3 ho4 hb hg_ hnew_; clear hg_ hnew_; simp only [Int.reduceToNat] at ho4; have n0_ := Aside0.mk (Kd.R_lower ho4 (below_size HB.out)); have n1_ := Aside0.mk (below_step HB.out hb); have nb_ := Aside0.mk ((hb.block _ (blk_lt HX.out)).trans HX.out); clear HB HX; have HO := n0_; have HB := n1_; have HX := nb_; clear n0_ n1_ nb_; clear hb ho4; obtain ⟨go, co, eo, gb, gl, cl, HG⟩ := Kd.R_form HO.out (by decide); subst eo; have GB := Aside0.mk gb; clear gb gl HG cl))
  generalize hbx : w1.heap.size = bx at HX ⊢
  clear hbx
  go_loopg [7, 19, 21, 22, 23, 24, 25, 26, 27, 28, 29, 30, 31, 32, 33, 34] 8 (fun kq v7 v19 v21 v22 v23 v24 v25 v26 v27 v28 v29 v30 v31 v32 v33 v34 w' => ∃ b : Int, (kq : Int) + b = 8 ∧ 0 ≤ b ∧ v19 = .int .i64 b ∧ Aside0 (Kd.R (Kd.int .u64) 66 w' w.heap.size (fun _ => True) (.slice (some ⟨go, 0, none⟩) 8 co) (enUpto [e0, e1, e2, e3, e4, e5, e6, e7] b)) ∧ Aside0 (w'.heap[bx]? = some (.cells #[.int .i64 0, .int .i64 6, .int .i64 12, .int .i64 21, .int .i64 33, .int .i64 48, .int .i64 69, .int .i64 93, .int .i64 120] 85 (0, 0))) ∧ Aside0 (Below w.heap.size w w'))
  case atStart => exact ⟨0, rfl, Int.le_refl _, rfl, ⟨HO.out⟩, ⟨HX.out⟩, ⟨HB.out⟩⟩
  case round =>
    clear HO HX HB
    obtain ⟨b, hkb, hb0, rfl, HO, HX, HB⟩ := hrel
    have hb8 : b = 0 ∨ b = 1 ∨ b = 2 ∨ b = 3 ∨ b = 4 ∨ b = 5 ∨ b = 6 ∨ b = 7 ∨ b = 8 := by omega
    rcases hb8 with rfl | rfl | rfl | rfl | rfl | rfl | rfl | rfl | rfl
    · obtain ⟨As, cs, hsl, hcs, hCs⟩ := seg_cut HR0.out HC0.out 0 6 (by decide) (by decide) (by omega)
      have HCS := Aside0.mk hcs; have HRS := Aside0.mk hCs
      clear hcs hCs
      obtain rfl : gk = 7 + 1 := by omega
      clear hkb hb0
      have ca : wr.cell? ⟨bx, 0, none⟩ = some (.int .i64 0) := by simp [World.cell?, HX.out]
      have cb : wr.cell? ⟨bx, 1, none⟩ = some (.int .i64 6) := by simp [World.cell?, HX.out]
      obtain ⟨hy, hz⟩ := Kd.R_celln 0 HO.out 0 (by decide) (by decide)
      simp only [Int.reduceToNat] at hy hz
      have hwr : IntKind.i64.wrap 1 = 1 := by decide +kernel
      go_wp2
      go_still_tail 13, (by kernel_rfl)
      still_call (band_energy.same k As cs (seg l0 0 6) e0 _ (Kd.C_below HRS.out (below_drew HB.out)) HCS.out q0.out)
      repeat still_step
      refine wpStill_nil ?_
      change wpList _ _ _ _ _ wr.drew
      have HO2 := Aside0.mk (Kd.R_drew HO.out)
      have HX2 : Aside0 (wr.drew.heap[bx]? = _) := ⟨HX.out⟩
      have HB2 := Aside0.mk (below_drew HB.out)
      clear HO HX HB ca cb hy hz hsl hwr HCS HRS
      generalize wr.drew = wd at HO2 HX2 HB2 ⊢
      obtain ⟨hy, hz⟩ := Kd.R_celln 0 HO2.out 0 (by decide) (by decide)
      simp only [Int.reduceToNat] at hy hz
      have HP := Kd.R_putg HO2.out (0 : Int) e0
      refine store_event (t := 66) (p := 34) (v := ?vo0) (w1 := wd.setCell ⟨go, Int.toNat 0, none⟩ (.int .u64 e0)) ?hg0 ?ho0 ?hn0 ?hr0 ?_
      (case ho0 => rfl); (case hg0 => rfl); (case hn0 => rfl); (case hr0 => first | (go_simp; done) | (go_simp; rfl))
      intro w5 hw
      have hg : wd.grownBy w5 (some go) := by rw [hw]; exact HP.2
      have HO3 : Aside0 (Kd.R (Kd.int .u64) 66 w5 w.heap.size (fun _ => True) (.slice (some ⟨go, 0, none⟩) 8 co) (enUpto [e0, e1, e2, e3, e4, e5, e6, e7] 1)) := ⟨by rw [hw]; exact HP.1⟩
      have HX3 : Aside0 (w5.heap[bx]? = _) := ⟨blk_grown HX2.out hg (Kd.R_ne HO2.out HX2.out (by decide))⟩
      have HB3 : Aside0 (Below w.heap.size w w5) := ⟨by rw [hw]; exact below_set HB2.out GB.out⟩
      clear HP hy hz HO2 HX2 HB2 hg hw
      go_wp2
      go_roundg 7
      case measure => omega
      case rel => exact ⟨1, by decide, by decide, (by first | rfl | (simp; done)), ⟨HO3.out⟩, ⟨HX3.out⟩, ⟨HB3.out⟩⟩
    · obtain ⟨As, cs, hsl, hcs, hCs⟩ := seg_cut HR0.out HC0.out 6 12 (by decide) (by decide) (by omega)
      have HCS := Aside0.mk hcs; have HRS := Aside0.mk hCs
      clear hcs hCs
      obtain rfl : gk = 6 + 1 := by omega
      clear hkb hb0
      have ca : wr.cell? ⟨bx, 1, none⟩ = some (.int .i64 6) := by simp [World.cell?, HX.out]
      have cb : wr.cell? ⟨bx, 2, none⟩ = some (.int .i64 12) := by simp [World.cell?, HX.out]
      obtain ⟨hy, hz⟩ := Kd.R_celln 0 HO.out 1 (by decide) (by decide)
      simp only [Int.reduceToNat] at hy hz
      have hwr : IntKind.i64.wrap 2 = 2 := by decide +kernel
      go_wp2
      go_still_tail 13, (by kernel_rfl)
      still_call (band_energy.same k As cs (seg l0 6 12) e1 _ (Kd.C_below HRS.out (below_drew HB.out)) HCS.out q1.out)
      repeat still_step
      refine wpStill_nil ?_
      change wpList _ _ _ _ _ wr.drew
      have HO2 := Aside0.mk (Kd.R_drew HO.out)
      have HX2 : Aside0 (wr.drew.heap[bx]? = _) := ⟨HX.out⟩
      have HB2 := Aside0.mk (below_drew HB.out)
      clear HO HX HB ca cb hy hz hsl hwr HCS HRS
      generalize wr.drew = wd at HO2 HX2 HB2 ⊢
      obtain ⟨hy, hz⟩ := Kd.R_celln 0 HO2.out 1 (by decide) (by decide)
      simp only [Int.reduceToNat] at hy hz
      have HP := Kd.R_putg HO2.out (1 : Int) e1
      refine store_event (t := 66) (p := 34) (v := ?vo1) (w1 := wd.setCell ⟨go, Int.toNat 1, none⟩ (.int .u64 e1)) ?hg1 ?ho1 ?hn1 ?hr1 ?_
      (case ho1 => rfl); (case hg1 => rfl); (case hn1 => rfl); (case hr1 => first | (go_simp; done) | (go_simp; rfl))
      intro w5 hw
      have hg : wd.grownBy w5 (some go) := by rw [hw]; exact HP.2
      have HO3 : Aside0 (Kd.R (Kd.int .u64) 66 w5 w.heap.size (fun _ => True) (.slice (some ⟨go, 0, none⟩) 8 co) (enUpto [e0, e1, e2, e3, e4, e5, e6, e7] 2)) := ⟨by rw [hw]; exact HP.1⟩
      have HX3 : Aside0 (w5.heap[bx]? = _) := ⟨blk_grown HX2.out hg (Kd.R_ne HO2.out HX2.out (by decide))⟩
      have HB3 : Aside0 (Below w.heap.size w w5) := ⟨by rw [hw]; exact below_set HB2.out GB.out⟩
      clear HP hy hz HO2 HX2 HB2 hg hw
      go_wp2
      go_roundg 6
      case measure => omega
      case rel => exact ⟨2, by decide, by decide, (by first | rfl | (simp; done)), ⟨HO3.out⟩, ⟨HX3.out⟩, ⟨HB3.out⟩⟩
    · obtain ⟨As, cs, hsl, hcs, hCs⟩ := seg_cut HR0.out HC0.out 12 21 (by decide) (by decide) (by omega)
      have HCS := Aside0.mk hcs; have HRS := Aside0.mk hCs
      clear hcs hCs
      obtain rfl : gk = 5 + 1 := by omega
      clear hkb hb0
      have ca : wr.cell? ⟨bx, 2, none⟩ = some (.int .i64 12) := by simp [World.cell?, HX.out]
      have cb : wr.cell? ⟨bx, 3, none⟩ = some (.int .i64 21) := by simp [World.cell?, HX.out]
      obtain ⟨hy, hz⟩ := Kd.R_celln 0 HO.out 2 (by decide) (by decide)
      simp only [Int.reduceToNat] at hy hz
      have hwr : IntKind.i64.wrap 3 = 3 := by decide +kernel
      go_wp2
      go_still_tail 13, (by kernel_rfl)
      still_call (band_energy.same k As cs (seg l0 12 21) e2 _ (Kd.C_below HRS.out (below_drew HB.out)) HCS.out q2.out)
      repeat still_step
      refine wpStill_nil ?_
      change wpList _ _ _ _ _ wr.drew
      have HO2 := Aside0.mk (Kd.R_drew HO.out)
      have HX2 : Aside0 (wr.drew.heap[bx]? = _) := ⟨HX.out⟩
      have HB2 := Aside0.mk (below_drew HB.out)
      clear HO HX HB ca cb hy hz hsl hwr HCS HRS
      generalize wr.drew = wd at HO2 HX2 HB2 ⊢
      obtain ⟨hy, hz⟩ := Kd.R_celln 0 HO2.out 2 (by decide) (by decide)
      simp only [Int.reduceToNat] at hy hz
      have HP := Kd.R_putg HO2.out (2 : Int) e2
      refine store_event (t := 66) (p := 34) (v := ?vo2) (w1 := wd.setCell ⟨go, Int.toNat 2, none⟩ (.int .u64 e2)) ?hg2 ?ho2 ?hn2 ?hr2 ?_
      (case ho2 => rfl); (case hg2 => rfl); (case hn2 => rfl); (case hr2 => first | (go_simp; done) | (go_simp; rfl))
      intro w5 hw
      have hg : wd.grownBy w5 (some go) := by rw [hw]; exact HP.2
      have HO3 : Aside0 (Kd.R (Kd.int .u64) 66 w5 w.heap.size (fun _ => True) (.slice (some ⟨go, 0, none⟩) 8 co) (enUpto [e0, e1, e2, e3, e4, e5, e6, e7] 3)) := ⟨by rw [hw]; exact HP.1⟩
      have HX3 : Aside0 (w5.heap[bx]? = _) := ⟨blk_grown HX2.out hg (Kd.R_ne HO2.out HX2.out (by decide))⟩
      have HB3 : Aside0 (Below w.heap.size w w5) := ⟨by rw [hw]; exact below_set HB2.out GB.out⟩
      clear HP hy hz HO2 HX2 HB2 hg hw
      go_wp2
      go_roundg 5
      case measure => omega
      case rel => exact ⟨3, by decide, by decide, (by first | rfl | (simp; done)), ⟨HO3.out⟩, ⟨HX3.out⟩, ⟨HB3.out⟩⟩
    · obtain ⟨As, cs, hsl, hcs, hCs⟩ := seg_cut HR0.out HC0.out 21 33 (by decide) (by decide) (by omega)
      have HCS := Aside0.mk hcs; have HRS := Aside0.mk hCs
      clear hcs hCs
      obtain rfl : gk = 4 + 1 := by omega
      clear hkb hb0
      have ca : wr.cell? ⟨bx, 3, none⟩ = some (.int .i64 21) := by simp [World.cell?, HX.out]
      have cb : wr.cell? ⟨bx, 4, none⟩ = some (.int .i64 33) := by simp [World.cell?, HX.out]
      obtain ⟨hy, hz⟩ := Kd.R_celln 0 HO.out 3 (by decide) (by decide)
      simp only [Int.reduceToNat] at hy hz
      have hwr : IntKind.i64.wrap 4 = 4 := by decide +kernel
      go_wp2
      go_still_tail 13, (by kernel_rfl)
      still_call (band_energy.same k As cs (seg l0 21 33) e3 _ (Kd.C_below HRS.out (below_drew HB.out)) HCS.out q3.out)
      repeat still_step
      refine wpStill_nil ?_
      change wpList _ _ _ _ _ wr.drew
      have HO2 := Aside0.mk (Kd.R_drew HO.out)
      have HX2 : Aside0 (wr.drew.heap[bx]? = _) := ⟨HX.out⟩
      have HB2 := Aside0.mk (below_drew HB.out)
      clear HO HX HB ca cb hy hz hsl hwr HCS HRS
      generalize wr.drew = wd at HO2 HX2 HB2 ⊢
      obtain ⟨hy, hz⟩ := Kd.R_celln 0 HO2.out 3 (by decide) (by decide)
      simp only [Int.reduceToNat] at hy hz
      have HP := Kd.R_putg HO2.out (3 : Int) e3
      refine store_event (t := 66) (p := 34) (v := ?vo3) (w1 := wd.setCell ⟨go, Int.toNat 3, none⟩ (.int .u64 e3)) ?hg3 ?ho3 ?hn3 ?hr3 ?_
      (case ho3 => rfl); (case hg3 => rfl); (case hn3 => rfl); (case hr3 => first | (go_simp; done) | (go_simp; rfl))
      intro w5 hw
      have hg : wd.grownBy w5 (some go) := by rw [hw]; exact HP.2
      have HO3 : Aside0 (Kd.R (Kd.int .u64) 66 w5 w.heap.size (fun _ => True) (.slice (some ⟨go, 0, none⟩) 8 co) (enUpto [e0, e1, e2, e3, e4, e5, e6, e7] 4)) := ⟨by rw [hw]; exact HP.1⟩
      have HX3 : Aside0 (w5.heap[bx]? = _) := ⟨blk_grown HX2.out hg (Kd.R_ne HO2.out HX2.out (by decide))⟩
      have HB3 : Aside0 (Below w.heap.size w w5) := ⟨by rw [hw]; exact below_set HB2.out GB.out⟩
      clear HP hy hz HO2 HX2 HB2 hg hw
      go_wp2
      go_roundg 4
      case measure => omega
      case rel => exact ⟨4, by decide, by decide, (by first | rfl | (simp; done)), ⟨HO3.out⟩, ⟨HX3.out⟩, ⟨HB3.out⟩⟩
    · obtain ⟨As, cs, hsl, hcs, hCs⟩ := seg_cut HR0.out HC0.out 33 48 (by decide) (by decide) (by omega)
      have HCS := Aside0.mk hcs; have HRS := Aside0.mk hCs
      clear hcs hCs
      obtain rfl : gk = 3 + 1 := by omega
      clear hkb hb0
      have ca : wr.cell? ⟨bx, 4, none⟩ = some (.int .i64 33) := by simp [World.cell?, HX.out]
      have cb : wr.cell? ⟨bx, 5, none⟩ = some (.int .i64 48) := by simp [World.cell?, HX.out]
      obtain ⟨hy, hz⟩ := Kd.R_celln 0 HO.out 4 (by decide) (by decide)
      simp only [Int.reduceToNat] at hy hz
      have hwr : IntKind.i64.wrap 5 = 5 := by decide +kernel
      go_wp2
      go_still_tail 13, (by kernel_rfl)
      still_call (band_energy.same k As cs (seg l0 33 48) e4 _ (Kd.C_below HRS.out (below_drew HB.out)) HCS.out q4.out)
      repeat still_step
      refine wpStill_nil ?_
      change wpList _ _ _ _ _ wr.drew
      have HO2 := Aside0.mk (Kd.R_drew HO.out)
      have HX2 : Aside0 (wr.drew.heap[bx]? = _) := ⟨HX.out⟩
      have HB2 := Aside0.mk (below_drew HB.out)
      clear HO HX HB ca cb hy hz hsl hwr HCS HRS
      generalize wr.drew = wd at HO2 HX2 HB2 ⊢
      obtain ⟨hy, hz⟩ := Kd.R_celln 0 HO2.out 4 (by decide) (by decide)
      simp only [Int.reduceToNat] at hy hz
      have HP := Kd.R_putg HO2.out (4 : Int) e4
      refine store_event (t := 66) (p := 34) (v := ?vo4) (w1 := wd.setCell ⟨go, Int.toNat 4, none⟩ (.int .u64 e4)) ?hg4 ?ho4 ?hn4 ?hr4 ?_
      (case ho4 => rfl); (case hg4 => rfl); (case hn4 => rfl); (case hr4 => first | (go_simp; done) | (go_simp; rfl))
      intro w5 hw
      have hg : wd.grownBy w5 (some go) := by rw [hw]; exact HP.2
      have HO3 : Aside0 (Kd.R (Kd.int .u64) 66 w5 w.heap.size (fun _ => True) (.slice (some ⟨go, 0, none⟩) 8 co) (enUpto [e0, e1, e2, e3, e4, e5, e6, e7] 5)) := ⟨by rw [hw]; exact HP.1⟩
      have HX3 : Aside0 (w5.heap[bx]? = _) := ⟨blk_grown HX2.out hg (Kd.R_ne HO2.out HX2.out (by decide))⟩
      have HB3 : Aside0 (Below w.heap.size w w5) := ⟨by rw [hw]; exact below_set HB2.out GB.out⟩
      clear HP hy hz HO2 HX2 HB2 hg hw
      go_wp2
      go_roundg 3
      case measure => omega
      case rel => exact ⟨5, by decide, by decide, (by first | rfl | (simp; done)), ⟨HO3.out⟩, ⟨HX3.out⟩, ⟨HB3.out⟩⟩
    · obtain ⟨As, cs, hsl, hcs, hCs⟩ := seg_cut HR0.out HC0.out 48 69 (by decide) (by decide) (by omega)
      have HCS := Aside0.mk hcs; have HRS := Aside0.mk hCs
      clear hcs hCs
      obtain rfl : gk = 2 + 1 := by omega
      clear hkb hb0
      have ca : wr.cell? ⟨bx, 5, none⟩ = some (.int .i64 48) := by simp [World.cell?, HX.out]
      have cb : wr.cell? ⟨bx, 6, none⟩ = some (.int .i64 69) := by simp [World.cell?, HX.out]
      obtain ⟨hy, hz⟩ := Kd.R_celln 0 HO.out 5 (by decide) (by decide)
      simp only [Int.reduceToNat] at hy hz
      have hwr : IntKind.i64.wrap 6 = 6 := by decide +kernel
      go_wp2
      go_still_tail 13, (by kernel_rfl)
      still_call (band_energy.same k As cs (seg l0 48 69) e5 _ (Kd.C_below HRS.out (below_drew HB.out)) HCS.out q5.out)
      repeat still_step
      refine wpStill_nil ?_
      change wpList _ _ _ _ _ wr.drew
      have HO2 := Aside0.mk (Kd.R_drew HO.out)
      have HX2 : Aside0 (wr.drew.heap[bx]? = _) := ⟨HX.out⟩
      have HB2 := Aside0.mk (below_drew HB.out)
      clear HO HX HB ca cb hy hz hsl hwr HCS HRS
      generalize wr.drew = wd at HO2 HX2 HB2 ⊢
      obtain ⟨hy, hz⟩ := Kd.R_celln 0 HO2.out 5 (by decide) (by decide)
      simp only [Int.reduceToNat] at hy hz
      have HP := Kd.R_putg HO2.out (5 : Int) e5
      refine store_event (t := 66) (p := 34) (v := ?vo5) (w1 := wd.setCell ⟨go, Int.toNat 5, none⟩ (.int .u64 e5)) ?hg5 ?ho5 ?hn5 ?hr5 ?_
      (case ho5 => rfl); (case hg5 => rfl); (case hn5 => rfl); (case hr5 => first | (go_simp; done) | (go_simp; rfl))
      intro w5 hw
      have hg : wd.grownBy w5 (some go) := by rw [hw]; exact HP.2
      have HO3 : Aside0 (Kd.R (Kd.int .u64) 66 w5 w.heap.size (fun _ => True) (.slice (some ⟨go, 0, none⟩) 8 co) (enUpto [e0, e1, e2, e3, e4, e5, e6, e7] 6)) := ⟨by rw [hw]; exact HP.1⟩
      have HX3 : Aside0 (w5.heap[bx]? = _) := ⟨blk_grown HX2.out hg (Kd.R_ne HO2.out HX2.out (by decide))⟩
      have HB3 : Aside0 (Below w.heap.size w w5) := ⟨by rw [hw]; exact below_set HB2.out GB.out⟩
      clear HP hy hz HO2 HX2 HB2 hg hw
      go_wp2
      go_roundg 2
      case measure => omega
      case rel => exact ⟨6, by decide, by decide, (by first | rfl | (simp; done)), ⟨HO3.out⟩, ⟨HX3.out⟩, ⟨HB3.out⟩⟩
    · obtain ⟨As, cs, hsl, hcs, hCs⟩ := seg_cut HR0.out HC0.out 69 93 (by decide) (by decide) (by omega)
      have HCS := Aside0.mk hcs; have HRS := Aside0.mk hCs
      clear hcs hCs
      obtain rfl : gk = 1 + 1 := by omega
      clear hkb hb0
      have ca : wr.cell? ⟨bx, 6, none⟩ = some (.int .i64 69) := by simp [World.cell?, HX.out]
      have cb : wr.cell? ⟨bx, 7, none⟩ = some (.int .i64 93) := by simp [World.cell?, HX.out]
      obtain ⟨hy, hz⟩ := Kd.R_celln 0 HO.out 6 (by decide) (by decide)
      simp only [Int.reduceToNat] at hy hz
      have hwr : IntKind.i64.wrap 7 = 7 := by decide +kernel
      go_wp2
      go_still_tail 13, (by kernel_rfl)
      still_call (band_energy.same k As cs (seg l0 69 93) e6 _ (Kd.C_below HRS.out (below_drew HB.out)) HCS.out q6.out)
      repeat still_step
      refine wpStill_nil ?_
      change wpList _ _ _ _ _ wr.drew
      have HO2 := Aside0.mk (Kd.R_drew HO.out)
      have HX2 : Aside0 (wr.drew.heap[bx]? = _) := ⟨HX.out⟩
      have HB2 := Aside0.mk (below_drew HB.out)
      clear HO HX HB ca cb hy hz hsl hwr HCS HRS
      generalize wr.drew = wd at HO2 HX2 HB2 ⊢
      obtain ⟨hy, hz⟩ := Kd.R_celln 0 HO2.out 6 (by decide) (by decide)
      simp only [Int.reduceToNat] at hy hz
      have HP := Kd.R_putg HO2.out (6 : Int) e6
      refine store_event (t := 66) (p := 34) (v := ?vo6) (w1 := wd.setCell ⟨go, Int.toNat 6, none⟩ (.int .u64 e6)) ?hg6 ?ho6 ?hn6 ?hr6 ?_
      (case ho6 => rfl); (case hg6 => rfl); (case hn6 => rfl); (case hr6 => first | (go_simp; done) | (go_simp; rfl))
      intro w5 hw
      have hg : wd.grownBy w5 (some go) := by rw [hw]; exact HP.2
      have HO3 : Aside0 (Kd.R (Kd.int .u64) 66 w5 w.heap.size (fun _ => True) (.slice (some ⟨go, 0, none⟩) 8 co) (enUpto [e0, e1, e2, e3, e4, e5, e6, e7] 7)) := ⟨by rw [hw]; exact HP.1⟩
      have HX3 : Aside0 (w5.heap[bx]? = _) := ⟨blk_grown HX2.out hg (Kd.R_ne HO2.out HX2.out (by decide))⟩
      have HB3 : Aside0 (Below w.heap.size w w5) := ⟨by rw [hw]; exact below_set HB2.out GB.out⟩
      clear HP hy hz HO2 HX2 HB2 hg hw
      go_wp2
      go_roundg 1
      case measure => omega
      case rel => exact ⟨7, by decide, by decide, (by first | rfl | (simp; done)), ⟨HO3.out⟩, ⟨HX3.out⟩, ⟨HB3.out⟩⟩
    · obtain ⟨As, cs, hsl, hcs, hCs⟩ := seg_cut HR0.out HC0.out 93 120 (by decide) (by decide) (by omega)
      have HCS := Aside0.mk hcs; have HRS := Aside0.mk hCs
      clear hcs hCs
      obtain rfl : gk = 0 + 1 := by omega
      clear hkb hb0
      have ca : wr.cell? ⟨bx, 7, none⟩ = some (.int .i64 93) := by simp [World.cell?, HX.out]
      have cb : wr.cell? ⟨bx, 8, none⟩ = some (.int .i64 120) := by simp [World.cell?, HX.out]
      obtain ⟨hy, hz⟩ := Kd.R_celln 0 HO.out 7 (by decide) (by decide)
      simp only [Int.reduceToNat] at hy hz
      have hwr : IntKind.i64.wrap 8 = 8 := by decide +kernel
      go_wp2
      go_still_tail 13, (by kernel_rfl)
      still_call (band_energy.same k As cs (seg l0 93 120) e7 _ (Kd.C_below HRS.out (below_drew HB.out)) HCS.out q7.out)
      repeat still_step
      refine wpStill_nil ?_
      change wpList _ _ _ _ _ wr.drew
      have HO2 := Aside0.mk (Kd.R_drew HO.out)
      have HX2 : Aside0 (wr.drew.heap[bx]? = _) := ⟨HX.out⟩
      have HB2 := Aside0.mk (below_drew HB.out)
      clear HO HX HB ca cb hy hz hsl hwr HCS HRS
      generalize wr.drew = wd at HO2 HX2 HB2 ⊢
      obtain ⟨hy, hz⟩ := Kd.R_celln 0 HO2.out 7 (by decide) (by decide)
      simp only [Int.reduceToNat] at hy hz
      have HP := Kd.R_putg HO2.out (7 : Int) e7
      refine store_event (t := 66) (p := 34) (v := ?vo7) (w1 := wd.setCell ⟨go, Int.toNat 7, none⟩ (.int .u64 e7)) ?hg7 ?ho7 ?hn7 ?hr7 ?_
      (case ho7 => rfl); (case hg7 => rfl); (case hn7 => rfl); (case hr7 => first | (go_simp; done) | (go_simp; rfl))
      intro w5 hw
      have hg : wd.grownBy w5 (some go) := by rw [hw]; exact HP.2
      have HO3 : Aside0 (Kd.R (Kd.int .u64) 66 w5 w.heap.size (fun _ => True) (.slice (some ⟨go, 0, none⟩) 8 co) (enUpto [e0, e1, e2, e3, e4, e5, e6, e7] 8)) := ⟨by rw [hw]; exact HP.1⟩
      have HX3 : Aside0 (w5.heap[bx]? = _) := ⟨blk_grown HX2.out hg (Kd.R_ne HO2.out HX2.out (by decide))⟩
      have HB3 : Aside0 (Below w.heap.size w w5) := ⟨by rw [hw]; exact below_set HB2.out GB.out⟩
      clear HP hy hz HO2 HX2 HB2 hg hw
      go_wp2
      go_roundg 0
      case measure => omega
      case rel => exact ⟨8, by decide, by decide, (by first | rfl | (simp; done)), ⟨HO3.out⟩, ⟨HX3.out⟩, ⟨HB3.out⟩⟩
    · clear hkb hb0
      go_wp2
      go_ret2
      exact ⟨_, rfl, HO.out, HB.out⟩
theorem band_Energies.calls (k : Nat) (A0 : Option Addr) (c0 : Nat) (l0 : List Int) (r1 : List Int) (r2 : Int) (w : World) (hr0 : Kd.C (Kd.int .i32) w A0 l0.length l0) (hc0 : l0.length ≤ c0) (h : band_Energies.f k l0 = some (r1, r2)) :
    Calls Try.prog 42 #[.slice A0 l0.length c0] w fun e w' => ∃ v0_ : Value, e = .returned (.tuple #[v0_, .int .i64 r2]) ∧ Kd.R (Kd.int .u64) 66 w' w.heap.size (fun _ => True) v0_ r1 ∧ Below w.heap.size w w' := by
  unfold band_Energies.f at h
  rcases edges_cases (l0.length : Int) with hn | hn | hn | hn | ⟨hn, he⟩
  · rw [hn, if_neg (by decide)] at h
    obtain ⟨r, hr, h2⟩ := Option.bind_eq_some_iff.mp h
    simp only [Option.some.injEq, Prod.mk.injEq] at h2
    obtain ⟨rfl, rfl⟩ := h2
    obtain ⟨e0, e1, e2, e3, e4, e5, e6, e7, rfl, q0, q1, q2, q3, q4, q5, q6, q7⟩ := enAll_some hr
    exact band_Energies.calls40 k A0 c0 l0 e0 e1 e2 e3 e4 e5 e6 e7 w hr0 hc0 (by omega) ⟨q0⟩ ⟨q1⟩ ⟨q2⟩ ⟨q3⟩ ⟨q4⟩ ⟨q5⟩ ⟨q6⟩ ⟨q7⟩
  · rw [hn, if_neg (by decide)] at h
    obtain ⟨r, hr, h2⟩ := Option.bind_eq_some_iff.mp h
    simp only [Option.some.injEq, Prod.mk.injEq] at h2
    obtain ⟨rfl, rfl⟩ := h2
    obtain ⟨e0, e1, e2, e3, e4, e5, e6, e7, rfl, q0, q1, q2, q3, q4, q5, q6, q7⟩ := enAll_some hr
    exact band_Energies.calls60 k A0 c0 l0 e0 e1 e2 e3 e4 e5 e6 e7 w hr0 hc0 (by omega) ⟨q0⟩ ⟨q1⟩ ⟨q2⟩ ⟨q3⟩ ⟨q4⟩ ⟨q5⟩ ⟨q6⟩ ⟨q7⟩
  · rw [hn, if_neg (by decide)] at h
    obtain ⟨r, hr, h2⟩ := Option.bind_eq_some_iff.mp h
    simp only [Option.some.injEq, Prod.mk.injEq] at h2
    obtain ⟨rfl, rfl⟩ := h2
    obtain ⟨e0, e1, e2, e3, e4, e5, e6, e7, rfl, q0, q1, q2, q3, q4, q5, q6, q7⟩ := enAll_some hr
    exact band_Energies.calls80 k A0 c0 l0 e0 e1 e2 e3 e4 e5 e6 e7 w hr0 hc0 (by omega) ⟨q0⟩ ⟨q1⟩ ⟨q2⟩ ⟨q3⟩ ⟨q4⟩ ⟨q5⟩ ⟨q6⟩ ⟨q7⟩
  · rw [hn, if_neg (by decide)] at h
    obtain ⟨r, hr, h2⟩ := Option.bind_eq_some_iff.mp h
    simp only [Option.some.injEq, Prod.mk.injEq] at h2
    obtain ⟨rfl, rfl⟩ := h2
    obtain ⟨e0, e1, e2, e3, e4, e5, e6, e7, rfl, q0, q1, q2, q3, q4, q5, q6, q7⟩ := enAll_some hr
    exact band_Energies.calls120 k A0 c0 l0 e0 e1 e2 e3 e4 e5 e6 e7 w hr0 hc0 (by omega) ⟨q0⟩ ⟨q1⟩ ⟨q2⟩ ⟨q3⟩ ⟨q4⟩ ⟨q5⟩ ⟨q6⟩ ⟨q7⟩
  · rw [if_pos he] at h; simp at h; obtain ⟨rfl, rfl⟩ := h
    clear he hr0 hc0
    go_enter Try.func42, Try.ntmps42
    go_wp2_with (first | (go_at_call 54; refine (band_edges.callsNo _ hn _).mono ?_; rintro e w1 ⟨rfl, hb⟩))
    go_ret2
    exact ⟨_, rfl, Kd.R_nil _ _ _ _ _, below_alloc (by assumption) _⟩

/-! ### band_Width: function 43 -/
def band_Width.l0 : Nat → List Int → Int → Int → Int → Option (Int × Int)
  | 0, _, _, _, _ => none
  | k + 1, x4, x6, x7, x8 => if x8 > 0 then (if 0 ≤ (wrap64 (2 * x8)) then (if (wrap64 (2 * x8)) < (x4.length : Int) then (if 0 ≤ (wrap64 ((wrap64 (2 * x8)) + 1)) then (if (wrap64 ((wrap64 (2 * x8)) + 1)) < (x4.length : Int) then (if (IntKind.u64.wrap (x7 + (IntKind.u64.wrap ((rd x4 (wrap64 (2 * x8))) + (rd x4 (wrap64 ((wrap64 (2 * x8)) + 1))))))) > x6 then (some (x8, 0)) else (band_Width.l0 k x4 x6 (IntKind.u64.wrap (x7 + (IntKind.u64.wrap ((rd x4 (wrap64 (2 * x8))) + (rd x4 (wrap64 ((wrap64 (2 * x8)) + 1))))))) (wrap64 (x8 - 1)))) else (none)) else (none)) else (none)) else (none)) else (some (x8, 0))
def band_Width.f (k : Nat) (l0 : List Int) : Option (Int × Int) := (band_Energies.f k l0).bind fun bt112 => (if bt112.2 = 0 then ((band_energy.f k l0).bind fun t116 => (band_Width.l0 k bt112.1 (IntKind.u64.wrap (Int.tdiv t116 4096)) 0 3)) else (some (0, bt112.2)))
theorem band_Width.mono_l : ∀ k, (∀ y0 y1 y2 y3, LeO (band_Width.l0 k y0 y1 y2 y3) (band_Width.l0 (k + 1) y0 y1 y2 y3))
  | 0 => fun _ _ _ _ r h => by simp [band_Width.l0] at h
  | k + 1 => by
    have ih0 := band_Width.mono_l k
    · intro y0 y1 y2 y3
      unfold band_Width.l0
      repeat' first
      | (with_reducible exact ih0 _ _ _ _)
      | (with_reducible exact band_Energies.mono _ _)
      | (with_reducible exact band_energy.mono _ _)
      | (with_reducible exact LeO.refl _)
      | (with_reducible exact LeO.none _)
      | (with_reducible refine LeO.ite ?_ ?_)
      | (with_reducible refine LeO.bind ?_ (fun _ => ?_))
      | exact ih0 _ _ _ _
      | exact band_Energies.mono _ _
      | exact band_energy.mono _ _
      | exact LeO.none _
      | refine LeO.ite ?_ ?_
      | refine LeO.bind ?_ (fun _ => ?_)
theorem band_Width.mono : ∀ a0 k, LeO (band_Width.f k a0) (band_Width.f (k + 1) a0) := by
  intro a0 k
  have ih0 := band_Width.mono_l k
  unfold band_Width.f
  repeat' first
      | (with_reducible exact ih0 _ _ _ _)
      | (with_reducible exact band_Energies.mono _ _)
      | (with_reducible exact band_energy.mono _ _)
      | (with_reducible exact LeO.refl _)
      | (with_reducible exact LeO.none _)
      | (with_reducible refine LeO.ite ?_ ?_)
      | (with_reducible refine LeO.bind ?_ (fun _ => ?_))
      | exact ih0 _ _ _ _
      | exact band_Energies.mono _ _
      | exact band_energy.mono _ _
      | exact LeO.none _
      | refine LeO.ite ?_ ?_
      | refine LeO.bind ?_ (fun _ => ?_)
set_option maxHeartbeats 8000000 in
set_option maxRecDepth 100000 in
theorem band_Width.calls (k : Nat) (A0 : Option Addr) (c0 : Nat) (l0 : List Int) (r1 : Int) (r2 : Int) (w : World) (hr0 : Kd.C (Kd.int .i32) w A0 l0.length l0) (hc0 : l0.length ≤ c0) (h : band_Width.f k l0 = some (r1, r2)) :
    Calls Try.prog 43 #[.slice A0 l0.length c0] w fun e w' => e = .returned (.tuple #[.int .i64 r1, .int .i64 r2]) ∧ Below w.heap.size w w' := by
  have HR0 := Aside0.mk hr0
  have HC0 := Aside0.mk hc0
  clear hr0 hc0
  have HB := Aside0.mk (Below.refl w.heap.size w)
  have H : ((band_Energies.f k l0).bind fun bt112 => (if bt112.2 = 0 then ((band_energy.f k l0).bind fun t116 => (band_Width.l0 k bt112.1 (IntKind.u64.wrap (Int.tdiv t116 4096)) 0 3)) else (some (0, bt112.2)))) = some (r1, r2) := h
  clear h
  replace H := Option.bind_eq_some_iff.mp H
  obtain ⟨⟨t112, t113⟩, A20, H⟩ := H
  replace H : (if t113 = 0 then ((band_energy.f k l0).bind fun t116 => (band_Width.l0 k t112 (IntKind.u64.wrap (Int.tdiv t116 4096)) 0 3)) else (some (0, t113))) = some (r1, r2) := H
  have A2 := Aside0.mk A20
  clear A20
  by_cases c3 : t113 = 0
  · rw [if_pos c3] at H
    have c3b0 : (t113 == 0) = true := beq_iff_eq.mpr c3
    have c3b1 : (t113 != 0) = false := bne_eq_false_iff_eq.mpr c3
    clear c3
    replace H := Option.bind_eq_some_iff.mp H
    obtain ⟨t116, A40, H⟩ := H
    replace H : (band_Width.l0 k t112 (IntKind.u64.wrap (Int.tdiv t116 4096)) 0 3) = some (r1, r2) := H
    have A4 := Aside0.mk A40
    clear A40
    have H' := Aside0.mk H
    clear H
    go_enter Try.func43, Try.ntmps43
    go_wp2_with (first | (go_at_call 42; (with_reducible refine (band_Energies.calls k _ _ l0 t112 t113 _ ?side1 ?side2 A2.out).mono ?_); (case side1 => repeat (first | exact HR0.out | (with_reducible refine Kd.C_alloc ?_ _) | (with_reducible refine Kd.C_drewN ?_ _) | (with_reducible refine Kd.C_drew ?_))); (case side2 => exact HC0.out); rintro e w5 ⟨v114, rfl, ho0, hb⟩; have n0_ := Aside0.mk (Kd.R_lower ho0 (below_size (by repeat (first | (with_reducible first | exact HB.out | apply below_alloc | apply pw_below_drewN | apply below_drew1) | exact HB.out)))); have n1_ := Aside0.mk (below_step (by repeat (first | (with_reducible first | exact HB.out | apply below_alloc | apply pw_below_drewN | apply below_drew1) | exact HB.out)) hb); clear HB; have HO115 := n0_; have HB := n1_; clear n0_ n1_; (try clear hb); (try clear hb2); (try clear hk); (try clear hi); (try clear ho0)) | (go_at_call 58; (with_reducible refine (band_energy.calls k _ _ l0 t116 _ ?side1 ?side2 A4.out).mono ?_); (case side1 => repeat (first | exact (Kd.C_below HR0.out HB.out) | (with_reducible refine Kd.C_alloc ?_ _) | (with_reducible refine Kd.C_drewN ?_ _) | (with_reducible refine Kd.C_drew ?_))); (case side2 => exact HC0.out); rintro e w6 ⟨rfl, hb⟩; have n0_ := Aside0.mk (Kd.R_below (by (with_reducible repeat (first | apply Kd.R_alloc | apply Kd.R_drewN | apply Kd.R_drew)); exact HO115.out) hb); have n1_ := Aside0.mk (below_step (by repeat (first | (with_reducible first | exact HB.out | apply below_alloc | apply pw_below_drewN | apply below_drew1) | exact HB.out)) hb); clear HO115; clear HB; have HO115 := n0_; have HB := n1_; clear n0_ n1_; (try clear hb); (try clear hb2); (try clear hk); (try clear hi)))
    repeat (go_quiet (first | (go_at_call 42; (with_reducible refine (band_Energies.calls k _ _ l0 t112 t113 _ ?side1 ?side2 A2.out).mono ?_); (case side1 => repeat (first | exact HR0.out | (with_reducible refine Kd.C_alloc ?_ _) | (with_reducible refine Kd.C_drewN ?_ _) | (with_reducible refine Kd.C_drew ?_))); (case side2 => exact HC0.out); rintro e w5 ⟨v114, rfl, ho0, hb⟩; have n0_ := Aside0.mk (Kd.R_lower ho0 (below_size (by repeat (first | (with_reducible first | exact HB.out | apply below_alloc | apply pw_below_drewN | apply below_drew1) | exact HB.out)))); have n1_ := Aside0.mk (below_step (by repeat (first | (with_reducible first | exact HB.out | apply below_alloc | apply pw_below_drewN | apply below_drew1) | exact HB.out)) hb); clear HB; have HO115 := n0_; have HB := n1_; clear n0_ n1_; (try clear hb); (try clear hb2); (try clear hk); (try clear hi); (try clear ho0)) | (go_at_call 58; (with_reducible refine (band_energy.calls k _ _ l0 t116 _ ?side1 ?side2 A4.out).mono ?_); (case side1 => repeat (first | exact (Kd.C_below HR0.out HB.out) | (with_reducible refine Kd.C_alloc ?_ _) | (with_reducible refine Kd.C_drewN ?_ _) | (with_reducible refine Kd.C_drew ?_))); (case side2 => exact HC0.out); rintro e w6 ⟨rfl, hb⟩; have n0_ := Aside0.mk (Kd.R_below (by (with_reducible repeat (first | apply Kd.R_alloc | apply Kd.R_drewN | apply Kd.R_drew)); exact HO115.out) hb); have n1_ := Aside0.mk (below_step (by repeat (first | (with_reducible first | exact HB.out | apply below_alloc | apply pw_below_drewN | apply below_drew1) | exact HB.out)) hb); clear HO115; clear HB; have HO115 := n0_; have HB := n1_; clear n0_ n1_; (try clear hb); (try clear hb2); (try clear hk); (try clear hi))); try go_wp2_with (first | (go_at_call 42; (with_reducible refine (band_Energies.calls k _ _ l0 t112 t113 _ ?side1 ?side2 A2.out).mono ?_); (case side1 => repeat (first | exact HR0.out | (with_reducible refine Kd.C_alloc ?_ _) | (with_reducible refine Kd.C_drewN ?_ _) | (with_reducible refine Kd.C_drew ?_))); (case side2 => exact HC0.out); rintro e w5 ⟨v114, rfl, ho0, hb⟩; have n0_ := Aside0.mk (Kd.R_lower ho0 (below_size (by repeat (first | (with_reducible first | exact HB.out | apply below_alloc | apply pw_below_drewN | apply below_drew1) | exact HB.out)))); have n1_ := Aside0.mk (below_step (by repeat (first | (with_reducible first | exact HB.out | apply below_alloc | apply pw_below_drewN | apply below_drew1) | exact HB.out)) hb); clear HB; have HO115 := n0_; have HB := n1_; clear n0_ n1_; (try clear hb); (try clear hb2); (try clear hk); (try clear hi); (try clear ho0)) | (go_at_call 58; (with_reducible refine (band_energy.calls k _ _ l0 t116 _ ?side1 ?side2 A4.out).mono ?_); (case side1 => repeat (first | exact (Kd.C_below HR0.out HB.out) | (with_reducible refine Kd.C_alloc ?_ _) | (with_reducible refine Kd.C_drewN ?_ _) | (with_reducible refine Kd.C_drew ?_))); (case side2 => exact HC0.out); rintro e w6 ⟨rfl, hb⟩; have n0_ := Aside0.mk (Kd.R_below (by (with_reducible repeat (first | apply Kd.R_alloc | apply Kd.R_drewN | apply Kd.R_drew)); exact HO115.out) hb); have n1_ := Aside0.mk (below_step (by repeat (first | (with_reducible first | exact HB.out | apply below_alloc | apply pw_below_drewN | apply below_drew1) | exact HB.out)) hb); clear HO115; clear HB; have HO115 := n0_; have HB := n1_; clear n0_ n1_; (try clear hb); (try clear hb2); (try clear hk); (try clear hi))))
    go_loopg [7, 8] k (fun kq v7 v8 w' => ∃ (x7_1 : Int) (x8_1 : Int), v7 = .int .u64 x7_1 ∧ v8 = .int .i64 x8_1 ∧ Aside0 (band_Width.l0 kq t112 (IntKind.u64.wrap (Int.tdiv t116 4096)) x7_1 x8_1 = some (r1, r2)) ∧ Aside0 (kq ≤ k) ∧ Aside0 (Kd.R (Kd.int .u64) 66 w' w.heap.size (fun _ => True) v114 t112) ∧ Aside0 (Below w.heap.size w w'))
    case atStart => exact ⟨(0), (3), (by first | rfl | (simp; done) | (simp [*]; done)), (by first | rfl | (simp; done) | (simp [*]; done)), H', ⟨Nat.le_refl _⟩, ⟨by (with_reducible repeat (first | apply Kd.R_alloc | apply Kd.R_drewN | apply Kd.R_drew)); exact HO115.out⟩, ⟨by repeat (first | (with_reducible first | exact HB.out | apply below_alloc | apply pw_below_drewN | apply below_drew1) | exact HB.out)⟩⟩
    case round =>
      clear H'
      try clear p2
      try clear c3
      try clear c3b0
      try clear c3b1
      try clear c4
      obtain ⟨x7_1, x8_1, rfl, rfl, HA, HK1, HO_4, HB⟩ := hrel
      cases gk with
      | zero => exact absurd HA.out (by simp [band_Width.l0])
      | succ k1 =>
        have H := HA.out
        clear HA
        simp only [band_Width.l0] at H
        by_cases c7 : x8_1 > 0
        · rw [if_pos c7] at H
          have c7b0 : decide (0 < x8_1) = true := decide_eq_true c7
          clear c7
          obtain ⟨ji8, hji8⟩ : ∃ j_ : Int, (wrap64 (2 * x8_1)) = j_ := ⟨_, rfl⟩
          replace H : (if 0 ≤ (ji8) then (if (ji8) < (t112.length : Int) then (if 0 ≤ (wrap64 ((ji8) + 1)) then (if (wrap64 ((ji8) + 1)) < (t112.length : Int) then (if (IntKind.u64.wrap (x7_1 + (IntKind.u64.wrap ((rd t112 (ji8)) + (rd t112 (wrap64 ((ji8) + 1))))))) > (IntKind.u64.wrap (Int.tdiv t116 4096)) then (some (x8_1, 0)) else (band_Width.l0 k1 t112 (IntKind.u64.wrap (Int.tdiv t116 4096)) (IntKind.u64.wrap (x7_1 + (IntKind.u64.wrap ((rd t112 (ji8)) + (rd t112 (wrap64 ((ji8) + 1))))))) (wrap64 (x8_1 - 1)))) else (none)) else (none)) else (none)) else (none)) = some (r1, r2) := by first | (rw [hji8] at H; exact H) | (simp only [hji8] at H ⊢; exact H)
          have hji8w : (IntKind.i64.wrap (2 * x8_1)) = ji8 := (i64_w _).trans hji8
          by_cases c9 : 0 ≤ (ji8)
          · rw [if_pos c9] at H
            have c9b0 : decide (0 ≤ (ji8)) = true := decide_eq_true c9
            clear c9
            by_cases c10 : (ji8) < (t112.length : Int)
            · rw [if_pos c10] at H
              have c10b0 : decide ((ji8) < (t112.length : Int)) = true := decide_eq_true c10
              clear c10
              obtain ⟨ji11, hji11⟩ : ∃ j_ : Int, (wrap64 ((ji8) + 1)) = j_ := ⟨_, rfl⟩
              replace H : (if 0 ≤ (ji11) then (if (ji11) < (t112.length : Int) then (if (IntKind.u64.wrap (x7_1 + (IntKind.u64.wrap ((rd t112 (ji8)) + (rd t112 (ji11)))))) > (IntKind.u64.wrap (Int.tdiv t116 4096)) then (some (x8_1, 0)) else (band_Width.l0 k1 t112 (IntKind.u64.wrap (Int.tdiv t116 4096)) (IntKind.u64.wrap (x7_1 + (IntKind.u64.wrap ((rd t112 (ji8)) + (rd t112 (ji11)))))) (wrap64 (x8_1 - 1)))) else (none)) else (none)) = some (r1, r2) := by first | (rw [hji11] at H; exact H) | (simp only [hji11] at H ⊢; exact H)
              have hji11w : (IntKind.i64.wrap ((ji8) + 1)) = ji11 := (i64_w _).trans hji11
              by_cases c12 : 0 ≤ (ji11)
              · rw [if_pos c12] at H
                have c12b0 : decide (0 ≤ (ji11)) = true := decide_eq_true c12
                clear c12
                by_cases c13 : (ji11) < (t112.length : Int)
                · rw [if_pos c13] at H
                  have c13b0 : decide ((ji11) < (t112.length : Int)) = true := decide_eq_true c13
                  clear c13
                  by_cases c14 : (IntKind.u64.wrap (x7_1 + (IntKind.u64.wrap ((rd t112 (ji8)) + (rd t112 (ji11)))))) > (IntKind.u64.wrap (Int.tdiv t116 4096))
                  · rw [if_pos c14] at H
                    have c14b0 : decide ((IntKind.u64.wrap (Int.tdiv t116 4096)) < (IntKind.u64.wrap (x7_1 + (IntKind.u64.wrap ((rd t112 (ji8)) + (rd t112 (ji11))))))) = true := decide_eq_true c14
                    clear c14
                    simp only [Option.some.injEq, Prod.mk.injEq] at H
                    obtain ⟨rfl, rfl⟩ := H
                    obtain ⟨Ao15, co15, eo15⟩ := Kd.R_slice HO_4.out
                    subst eo15
                    have p117 : 0 ≤ ((ji8) : Int) := of_decide_eq_true (by first | (with_reducible assumption) | assumption)
                    have q117 : (ji8) < (t112.length : Int) := of_decide_eq_true (by first | (with_reducible assumption) | assumption)
                    obtain ⟨ad117, e117, hx117_0⟩ := Kd.at_int (Kd.R_reads' HO_4.out).2.2 (ji8) p117 q117
                    cases e117
                    replace p117 := eq_true p117
                    replace q117 := eq_true q117
                    have p118 : 0 ≤ ((ji11) : Int) := of_decide_eq_true (by first | (with_reducible assumption) | assumption)
                    have q118 : (ji11) < (t112.length : Int) := of_decide_eq_true (by first | (with_reducible assumption) | assumption)
                    obtain ⟨ad118, e118, hx118_0⟩ := Kd.at_int (Kd.R_reads' HO_4.out).2.2 (ji11) p118 q118
                    obtain rfl : ad117 = ad118 := (by injection e118)
                    replace p118 := eq_true p118
                    replace q118 := eq_true q118
                    go_wp2
                    repeat (go_quiet (fail); try go_wp2)
                    go_ret2
                    exact ⟨by first | rfl | (simp [errW_none, errW_some] <;> rfl) | (simp only [← hji8, ← hji11]; first | rfl | (simp [errW_none, errW_some] <;> rfl)) | (simp [*, errW_none, errW_some] <;> rfl), by repeat (first | (with_reducible first | exact HB.out | apply below_alloc | apply pw_below_drewN | apply below_drew1) | exact HB.out)⟩
                  · rw [if_neg c14] at H
                    have c14b0 : decide ((IntKind.u64.wrap (Int.tdiv t116 4096)) < (IntKind.u64.wrap (x7_1 + (IntKind.u64.wrap ((rd t112 (ji8)) + (rd t112 (ji11))))))) = false := decide_eq_false c14
                    clear c14
                    have H' := Aside0.mk H
                    clear H
                    obtain ⟨Ao16, co16, eo16⟩ := Kd.R_slice HO_4.out
                    subst eo16
                    have p117 : 0 ≤ ((ji8) : Int) := of_decide_eq_true (by first | (with_reducible assumption) | assumption)
                    have q117 : (ji8) < (t112.length : Int) := of_decide_eq_true (by first | (with_reducible assumption) | assumption)
                    obtain ⟨ad117, e117, hx117_0⟩ := Kd.at_int (Kd.R_reads' HO_4.out).2.2 (ji8) p117 q117
                    cases e117
                    replace p117 := eq_true p117
                    replace q117 := eq_true q117
                    have p118 : 0 ≤ ((ji11) : Int) := of_decide_eq_true (by first | (with_reducible assumption) | assumption)
                    have q118 : (ji11) < (t112.length : Int) := of_decide_eq_true (by first | (with_reducible assumption) | assumption)
                    obtain ⟨ad118, e118, hx118_0⟩ := Kd.at_int (Kd.R_reads' HO_4.out).2.2 (ji11) p118 q118
                    obtain rfl : ad117 = ad118 := (by injection e118)
                    replace p118 := eq_true p118
                    replace q118 := eq_true q118
                    go_wp2
                    repeat (go_quiet (fail); try go_wp2)
                    go_roundg k1
                    case measure => have := HK1.out; omega
                    case rel => exact ⟨(IntKind.u64.wrap (x7_1 + (IntKind.u64.wrap ((rd t112 (ji8)) + (rd t112 (ji11)))))), (wrap64 (x8_1 - 1)), (by first | rfl | (simp; done) | (simp only [← hji8, ← hji11] <;> (first | rfl | simp)) | (simp [*]; done)), (by first | rfl | (simp; done) | (simp [*]; done)), H', ⟨by have := HK1.out; omega⟩, ⟨by (with_reducible repeat (first | apply Kd.R_alloc | apply Kd.R_drewN | apply Kd.R_drew)); exact HO_4.out⟩, ⟨by repeat (first | (with_reducible first | exact HB.out | apply below_alloc | apply pw_below_drewN | apply below_drew1) | exact HB.out)⟩⟩
                · rw [if_neg c13] at H
                  exact absurd H (by simp)
              · rw [if_neg c12] at H
                exact absurd H (by simp)
            · rw [if_neg c10] at H
              exact absurd H (by simp)
          · rw [if_neg c9] at H
            exact absurd H (by simp)
        · rw [if_neg c7] at H
          have c7b0 : decide (0 < x8_1) = false := decide_eq_false c7
          clear c7
          simp only [Option.some.injEq, Prod.mk.injEq] at H
          obtain ⟨rfl, rfl⟩ := H
          go_wp2
          repeat (go_quiet (fail); try go_wp2)
          go_ret2
          exact ⟨by first | rfl | (simp [errW_none, errW_some] <;> rfl) | (simp [*, errW_none, errW_some] <;> rfl), by repeat (first | (with_reducible first | exact HB.out | apply below_alloc | apply pw_below_drewN | apply below_drew1) | exact HB.out)⟩
  · rw [if_neg c3] at H
    have c3b0 : (t113 == 0) = false := beq_eq_false_iff_ne.mpr c3
    have c3b1 : (t113 != 0) = true := bne_iff_ne.mpr c3
    simp only [Option.some.injEq, Prod.mk.injEq] at H
    obtain ⟨rfl, rfl⟩ := H
    go_enter Try.func43, Try.ntmps43
    go_wp2_with (first | (go_at_call 42; (with_reducible refine (band_Energies.calls k _ _ l0 t112 t113 _ ?side1 ?side2 A2.out).mono ?_); (case side1 => repeat (first | exact HR0.out | (with_reducible refine Kd.C_alloc ?_ _) | (with_reducible refine Kd.C_drewN ?_ _) | (with_reducible refine Kd.C_drew ?_))); (case side2 => exact HC0.out); rintro e w17 ⟨v114, rfl, ho0, hb⟩; have n0_ := Aside0.mk (Kd.R_lower ho0 (below_size (by repeat (first | (with_reducible first | exact HB.out | apply below_alloc | apply pw_below_drewN | apply below_drew1) | exact HB.out)))); have n1_ := Aside0.mk (below_step (by repeat (first | (with_reducible first | exact HB.out | apply below_alloc | apply pw_below_drewN | apply below_drew1) | exact HB.out)) hb); clear HB; have HO115 := n0_; have HB := n1_; clear n0_ n1_; (try clear hb); (try clear hb2); (try clear hk); (try clear hi); (try clear ho0)))
    repeat (go_quiet (first | (go_at_call 42; (with_reducible refine (band_Energies.calls k _ _ l0 t112 t113 _ ?side1 ?side2 A2.out).mono ?_); (case side1 => repeat (first | exact HR0.out | (with_reducible refine Kd.C_alloc ?_ _) | (with_reducible refine Kd.C_drewN ?_ _) | (with_reducible refine Kd.C_drew ?_))); (case side2 => exact HC0.out); rintro e w17 ⟨v114, rfl, ho0, hb⟩; have n0_ := Aside0.mk (Kd.R_lower ho0 (below_size (by repeat (first | (with_reducible first | exact HB.out | apply below_alloc | apply pw_below_drewN | apply below_drew1) | exact HB.out)))); have n1_ := Aside0.mk (below_step (by repeat (first | (with_reducible first | exact HB.out | apply below_alloc | apply pw_below_drewN | apply below_drew1) | exact HB.out)) hb); clear HB; have HO115 := n0_; have HB := n1_; clear n0_ n1_; (try clear hb); (try clear hb2); (try clear hk); (try clear hi); (try clear ho0))); try go_wp2_with (first | (go_at_call 42; (with_reducible refine (band_Energies.calls k _ _ l0 t112 t113 _ ?side1 ?side2 A2.out).mono ?_); (case side1 => repeat (first | exact HR0.out | (with_reducible refine Kd.C_alloc ?_ _) | (with_reducible refine Kd.C_drewN ?_ _) | (with_reducible refine Kd.C_drew ?_))); (case side2 => exact HC0.out); rintro e w17 ⟨v114, rfl, ho0, hb⟩; have n0_ := Aside0.mk (Kd.R_lower ho0 (below_size (by repeat (first | (with_reducible first | exact HB.out | apply below_alloc | apply pw_below_drewN | apply below_drew1) | exact HB.out)))); have n1_ := Aside0.mk (below_step (by repeat (first | (with_reducible first | exact HB.out | apply below_alloc | apply pw_below_drewN | apply below_drew1) | exact HB.out)) hb); clear HB; have HO115 := n0_; have HB := n1_; clear n0_ n1_; (try clear hb); (try clear hb2); (try clear hk); (try clear hi); (try clear ho0))))
    go_ret2
    exact ⟨by first | rfl | (simp [errW_none, errW_some] <;> rfl) | (simp [*, errW_none, errW_some] <;> rfl), by repeat (first | (with_reducible first | exact HB.out | apply below_alloc | apply pw_below_drewN | apply below_drew1) | exact HB.out)⟩

/-! ### psalterylaw15_alive: function 30 -/
def psalterylaw15_alive.f (k : Nat)  : Option (Bool) := if 40 ≤ 70368744177664 then ((band_Width.f k (List.replicate 40 0)).bind fun bt122 => ((band_Kept.f 40 0).bind fun bt124 => ((band_Edges.f 41).bind fun bt126 => (if bt122.1 = 0 then (if bt122.2 = 0 then (if bt124.1 = 4 then (if bt124.2 = 0 then (some (bt126.2 == 1)) else (some false)) else (some false)) else (some false)) else (some false))))) else (none)
theorem psalterylaw15_alive.mono : ∀ k, LeO (psalterylaw15_alive.f k ) (psalterylaw15_alive.f (k + 1) ) := by
  intro  k
  unfold psalterylaw15_alive.f
  repeat' first
      | (with_reducible exact band_Width.mono _ _)
      | (with_reducible exact LeO.refl _)
      | (with_reducible exact LeO.none _)
      | (with_reducible refine LeO.ite ?_ ?_)
      | (with_reducible refine LeO.bind ?_ (fun _ => ?_))
      | exact band_Width.mono _ _
      | exact LeO.none _
      | refine LeO.ite ?_ ?_
      | refine LeO.bind ?_ (fun _ => ?_)
set_option maxHeartbeats 8000000 in
set_option maxRecDepth 100000 in
theorem psalterylaw15_alive.calls (k : Nat)  (r : Bool) (w : World) (h : psalterylaw15_alive.f k  = some r) :
    Calls Try.prog 30 #[] w fun e w' => e = .returned (.bool r) ∧ Below w.heap.size w w' := by
  have HB := Aside0.mk (Below.refl w.heap.size w)
  have H : (if 40 ≤ 70368744177664 then ((band_Width.f k (List.replicate 40 0)).bind fun bt122 => ((band_Kept.f 40 0).bind fun bt124 => ((band_Edges.f 41).bind fun bt126 => (if bt122.1 = 0 then (if bt122.2 = 0 then (if bt124.1 = 4 then (if bt124.2 = 0 then (some (bt126.2 == 1)) else (some false)) else (some false)) else (some false)) else (some false))))) else (none)) = some r := h
  clear h
  by_cases c1 : 40 ≤ 70368744177664
  · rw [if_pos c1] at H
    have c1b0 := eq_true c1
    have c1b1 : decide (40 ≤ 70368744177664) = true := decide_eq_true c1
    clear c1
    obtain ⟨y119, hy119⟩ : ∃ y_ : List Int, y_ = (List.replicate 40 0) := ⟨_, rfl⟩
    replace H : ((band_Width.f k y119).bind fun bt122 => ((band_Kept.f 40 0).bind fun bt124 => ((band_Edges.f 41).bind fun bt126 => (if bt122.1 = 0 then (if bt122.2 = 0 then (if bt124.1 = 4 then (if bt124.2 = 0 then (some (bt126.2 == 1)) else (some false)) else (some false)) else (some false)) else (some false))))) = some r := by first | (rw [hy119]; with_reducible exact H) | (have H2_ := (Option.bind_some _ _).symm.trans H; rw [hy119]; with_reducible exact H2_) | (have H2_ := (Option.bind_some _ _).symm.trans H; with_reducible exact H2_) | with_reducible exact H | (rw [hy119]; exact H) | exact H
    have Ny119 := Aside0.mk hy119
    clear hy119
    replace H := Option.bind_eq_some_iff.mp H
    obtain ⟨⟨t122, t123⟩, A20, H⟩ := H
    replace H : ((band_Kept.f 40 0).bind fun bt124 => ((band_Edges.f 41).bind fun bt126 => (if t122 = 0 then (if t123 = 0 then (if bt124.1 = 4 then (if bt124.2 = 0 then (some (bt126.2 == 1)) else (some false)) else (some false)) else (some false)) else (some false)))) = some r := H
    have A2 := Aside0.mk A20
    clear A20
    replace H := Option.bind_eq_some_iff.mp H
    obtain ⟨⟨t124, t125⟩, A30, H⟩ := H
    replace H : ((band_Edges.f 41).bind fun bt126 => (if t122 = 0 then (if t123 = 0 then (if t124 = 4 then (if t125 = 0 then (some (bt126.2 == 1)) else (some false)) else (some false)) else (some false)) else (some false))) = some r := H
    have A3 := Aside0.mk A30
    clear A30
    replace H := Option.bind_eq_some_iff.mp H
    obtain ⟨⟨t126, t127⟩, A40, H⟩ := H
    replace H : (if t122 = 0 then (if t123 = 0 then (if t124 = 4 then (if t125 = 0 then (some (t127 == 1)) else (some false)) else (some false)) else (some false)) else (some false)) = some r := H
    have A4 := Aside0.mk A40
    clear A40
    by_cases c5 : t122 = 0
    · rw [if_pos c5] at H
      have c5b0 : (t122 == 0) = true := beq_iff_eq.mpr c5
      have c5b1 : (t122 != 0) = false := bne_eq_false_iff_eq.mpr c5
      clear c5
      by_cases c6 : t123 = 0
      · rw [if_pos c6] at H
        have c6b0 : (t123 == 0) = true := beq_iff_eq.mpr c6
        have c6b1 : (t123 != 0) = false := bne_eq_false_iff_eq.mpr c6
        clear c6
        by_cases c7 : t124 = 4
        · rw [if_pos c7] at H
          have c7b0 : (t124 == 4) = true := beq_iff_eq.mpr c7
          have c7b1 : (t124 != 4) = false := bne_eq_false_iff_eq.mpr c7
          clear c7
          by_cases c8 : t125 = 0
          · rw [if_pos c8] at H
            have c8b0 : (t125 == 0) = true := beq_iff_eq.mpr c8
            have c8b1 : (t125 != 0) = false := bne_eq_false_iff_eq.mpr c8
            clear c8
            obtain rfl := Option.some.inj H
            go_enter Try.func30, Try.ntmps30
            go_wp2_with (first | ((with_reducible refine gate_dst (N := 8) rfl ?_); refine Kd.R_make (Kd.int .i32) _ 21 rfl (N := 8) rfl 69 _ _ rfl 40 rfl rfl Try.underlying69 (.int .i32 0) 4 info21 rfl (by decide) (by omega) 0 (ok := fun _ => True) (okp := fun _ => True) rfl (fun _ hk => hk) trivial (by omega) (by omega) (Below.refl _ _) (Nat.le_refl _) ?_; intro v120 w9 ho10 hb hg_ hnew_; clear hg_ hnew_; (first | rw [← Ny119.out] at ho10 | (simp only [Int.reduceToNat] at ho10; rw [← Ny119.out] at ho10)); have n0_ := Aside0.mk (Kd.R_lower ho10 (below_size (by repeat (first | (with_reducible first | exact HB.out | apply below_alloc | apply pw_below_drewN | apply below_drew1) | exact HB.out)))); have n1_ := Aside0.mk (below_step (by repeat (first | (with_reducible first | exact HB.out | apply below_alloc | apply pw_below_drewN | apply below_drew1) | exact HB.out)) hb); clear HB; have HO121 := n0_; have HB := n1_; clear n0_ n1_; clear hb ho10; obtain ⟨Ao11, co11, eo11⟩ := Kd.R_slice HO121.out; subst eo11) | ((with_reducible refine gate_callee (f := 43) rfl ?_); refine goesL_ (some 9) rfl rfl Try.func43 (by kernel_rfl) rfl #[.slice Ao11 y119.length co11] rfl (by (try simp only [List.map_toArray, List.map_cons, List.map_nil]); first | done | rfl | (simp only [List.length_drop, List.length_take]; rfl)) ?_; (with_reducible refine (band_Width.calls k _ _ y119 t122 t123 _ ?side1 ?side2 A2.out).mono ?_); (case side1 => repeat (first | exact (Kd.R_reads' HO121.out).2.2 | (with_reducible refine Kd.C_alloc ?_ _) | (with_reducible refine Kd.C_drewN ?_ _) | (with_reducible refine Kd.C_drew ?_))); (case side2 => exact (Kd.R_reads' HO121.out).2.1); rintro e w12 ⟨rfl, hb⟩; refine ⟨_, rfl, ?_⟩; have n0_ := Aside0.mk (Kd.R_below (by (with_reducible repeat (first | apply Kd.R_alloc | apply Kd.R_drewN | apply Kd.R_drew)); exact HO121.out) hb); have n1_ := Aside0.mk (below_step (by repeat (first | (with_reducible first | exact HB.out | apply below_alloc | apply pw_below_drewN | apply below_drew1) | exact HB.out)) hb); clear HO121; clear HB; have HO121 := n0_; have HB := n1_; clear n0_ n1_; (try clear hb); (try clear hb2); (try clear hk); (try clear hi)) | ((with_reducible refine gate_callee (f := 32) rfl ?_); refine goesL_ (some 13) rfl rfl Try.func32 (by kernel_rfl) rfl #[.int .i64 40, .int .i64 0] rfl (by (try simp only [List.map_toArray, List.map_cons, List.map_nil]); first | done | rfl | (simp only [List.length_drop, List.length_take]; rfl)) ?_; (with_reducible refine (band_Kept.calls 40 0 t124 t125 _ A3.out).mono ?_); rintro e w13 ⟨rfl, hb⟩; refine ⟨_, rfl, ?_⟩; have n0_ := Aside0.mk (Kd.R_below (by (with_reducible repeat (first | apply Kd.R_alloc | apply Kd.R_drewN | apply Kd.R_drew)); exact HO121.out) hb); have n1_ := Aside0.mk (below_step (by repeat (first | (with_reducible first | exact HB.out | apply below_alloc | apply pw_below_drewN | apply below_drew1) | exact HB.out)) hb); clear HO121; clear HB; have HO121 := n0_; have HB := n1_; clear n0_ n1_; (try clear hb); (try clear hb2); (try clear hk); (try clear hi)) | ((with_reducible refine gate_callee (f := 31) rfl ?_); refine goesL_ (some 17) rfl rfl Try.func31 (by kernel_rfl) rfl #[.int .i64 41] rfl (by (try simp only [List.map_toArray, List.map_cons, List.map_nil]); first | done | rfl | (simp only [List.length_drop, List.length_take]; rfl)) ?_; (with_reducible refine (band_Edges.calls 41 t126 t127 _ A4.out).mono ?_); rintro e w14 ⟨v128, rfl, ho0, hb⟩; refine ⟨_, rfl, ?_⟩; have n0_ := Aside0.mk (Kd.R_below (by (with_reducible repeat (first | apply Kd.R_alloc | apply Kd.R_drewN | apply Kd.R_drew)); exact HO121.out) hb); have n1_ := Aside0.mk (Kd.R_lower ho0 (below_size (by repeat (first | (with_reducible first | exact HB.out | apply below_alloc | apply pw_below_drewN | apply below_drew1) | exact HB.out)))); have n2_ := Aside0.mk (below_step (by repeat (first | (with_reducible first | exact HB.out | apply below_alloc | apply pw_below_drewN | apply below_drew1) | exact HB.out)) hb); clear HO121; clear HB; have HO121 := n0_; have HO129 := n1_; have HB := n2_; clear n0_ n1_ n2_; (try clear hb); (try clear hb2); (try clear hk); (try clear hi); (try clear ho0)))
            go_ret
            exact ⟨by first | rfl | (simp [errW_none, errW_some] <;> rfl) | (simp [*, errW_none, errW_some] <;> rfl), by repeat (first | (with_reducible first | exact HB.out | apply below_alloc | apply pw_below_drewN | apply below_drew1) | exact HB.out)⟩
          · rw [if_neg c8] at H
            have c8b0 : (t125 == 0) = false := beq_eq_false_iff_ne.mpr c8
            have c8b1 : (t125 != 0) = true := bne_iff_ne.mpr c8
            obtain rfl := Option.some.inj H
            go_enter Try.func30, Try.ntmps30
            go_wp2_with (first | ((with_reducible refine gate_dst (N := 8) rfl ?_); refine Kd.R_make (Kd.int .i32) _ 21 rfl (N := 8) rfl 69 _ _ rfl 40 rfl rfl Try.underlying69 (.int .i32 0) 4 info21 rfl (by decide) (by omega) 0 (ok := fun _ => True) (okp := fun _ => True) rfl (fun _ hk => hk) trivial (by omega) (by omega) (Below.refl _ _) (Nat.le_refl _) ?_; intro v120 w15 ho16 hb hg_ hnew_; clear hg_ hnew_; (first | rw [← Ny119.out] at ho16 | (simp only [Int.reduceToNat] at ho16; rw [← Ny119.out] at ho16)); have n0_ := Aside0.mk (Kd.R_lower ho16 (below_size (by repeat (first | (with_reducible first | exact HB.out | apply below_alloc | apply pw_below_drewN | apply below_drew1) | exact HB.out)))); have n1_ := Aside0.mk (below_step (by repeat (first | (with_reducible first | exact HB.out | apply below_alloc | apply pw_below_drewN | apply below_drew1) | exact HB.out)) hb); clear HB; have HO121 := n0_; have HB := n1_; clear n0_ n1_; clear hb ho16; obtain ⟨Ao17, co17, eo17⟩ := Kd.R_slice HO121.out; subst eo17) | ((with_reducible refine gate_callee (f := 43) rfl ?_); refine goesL_ (some 9) rfl rfl Try.func43 (by kernel_rfl) rfl #[.slice Ao17 y119.length co17] rfl (by (try simp only [List.map_toArray, List.map_cons, List.map_nil]); first | done | rfl | (simp only [List.length_drop, List.length_take]; rfl)) ?_; (with_reducible refine (band_Width.calls k _ _ y119 t122 t123 _ ?side1 ?side2 A2.out).mono ?_); (case side1 => repeat (first | exact (Kd.R_reads' HO121.out).2.2 | (with_reducible refine Kd.C_alloc ?_ _) | (with_reducible refine Kd.C_drewN ?_ _) | (with_reducible refine Kd.C_drew ?_))); (case side2 => exact (Kd.R_reads' HO121.out).2.1); rintro e w18 ⟨rfl, hb⟩; refine ⟨_, rfl, ?_⟩; have n0_ := Aside0.mk (Kd.R_below (by (with_reducible repeat (first | apply Kd.R_alloc | apply Kd.R_drewN | apply Kd.R_drew)); exact HO121.out) hb); have n1_ := Aside0.mk (below_step (by repeat (first | (with_reducible first | exact HB.out | apply below_alloc | apply pw_below_drewN | apply below_drew1) | exact HB.out)) hb); clear HO121; clear HB; have HO121 := n0_; have HB := n1_; clear n0_ n1_; (try clear hb); (try clear hb2); (try clear hk); (try clear hi)) | ((with_reducible refine gate_callee (f := 32) rfl ?_); refine goesL_ (some 13) rfl rfl Try.func32 (by kernel_rfl) rfl #[.int .i64 40, .int .i64 0] rfl (by (try simp only [List.map_toArray, List.map_cons, List.map_nil]); first | done | rfl | (simp only [List.length_drop, List.length_take]; rfl)) ?_; (with_reducible refine (band_Kept.calls 40 0 t124 t125 _ A3.out).mono ?_); rintro e w19 ⟨rfl, hb⟩; refine ⟨_, rfl, ?_⟩; have n0_ := Aside0.mk (Kd.R_below (by (with_reducible repeat (first | apply Kd.R_alloc | apply Kd.R_drewN | apply Kd.R_drew)); exact HO121.out) hb); have n1_ := Aside0.mk (below_step (by repeat (first | (with_reducible first | exact HB.out | apply below_alloc | apply pw_below_drewN | apply below_drew1) | exact HB.out)) hb); clear HO121; clear HB; have HO121 := n0_; have HB := n1_; clear n0_ n1_; (try clear hb); (try clear hb2); (try clear hk); (try clear hi)) | ((with_reducible refine gate_callee (f := 31) rfl ?_); refine goesL_ (some 17) rfl rfl Try.func31 (by kernel_rfl) rfl #[.int .i64 41] rfl (by (try simp only [List.map_toArray, List.map_cons, List.map_nil]); first | done | rfl | (simp only [List.length_drop, List.length_take]; rfl)) ?_; (with_reducible refine (band_Edges.calls 41 t126 t127 _ A4.out).mono ?_); rintro e w20 ⟨v128, rfl, ho0, hb⟩; refine ⟨_, rfl, ?_⟩; have n0_ := Aside0.mk (Kd.R_below (by (with_reducible repeat (first | apply Kd.R_alloc | apply Kd.R_drewN | apply Kd.R_drew)); exact HO121.out) hb); have n1_ := Aside0.mk (Kd.R_lower ho0 (below_size (by repeat (first | (with_reducible first | exact HB.out | apply below_alloc | apply pw_below_drewN | apply below_drew1) | exact HB.out)))); have n2_ := Aside0.mk (below_step (by repeat (first | (with_reducible first | exact HB.out | apply below_alloc | apply pw_below_drewN | apply below_drew1) | exact HB.out)) hb); clear HO121; clear HB; have HO121 := n0_; have HO129 := n1_; have HB := n2_; clear n0_ n1_ n2_; (try clear hb); (try clear hb2); (try clear hk); (try clear hi); (try clear ho0)))
            go_ret
            exact ⟨by first | rfl | (simp [errW_none, errW_some] <;> rfl) | (simp [*, errW_none, errW_some] <;> rfl), by repeat (first | (with_reducible first | exact HB.out | apply below_alloc | apply pw_below_drewN | apply below_drew1) | exact HB.out)⟩
        · rw [if_neg c7] at H
          have c7b0 : (t124 == 4) = false := beq_eq_false_iff_ne.mpr c7
          have c7b1 : (t124 != 4) = true := bne_iff_ne.mpr c7
          obtain rfl := Option.some.inj H
          go_enter Try.func30, Try.ntmps30
          go_wp2_with (first | ((with_reducible refine gate_dst (N := 8) rfl ?_); refine Kd.R_make (Kd.int .i32) _ 21 rfl (N := 8) rfl 69 _ _ rfl 40 rfl rfl Try.underlying69 (.int .i32 0) 4 info21 rfl (by decide) (by omega) 0 (ok := fun _ => True) (okp := fun _ => True) rfl (fun _ hk => hk) trivial (by omega) (by omega) (Below.refl _ _) (Nat.le_refl _) ?_; intro v120 w21 ho22 hb hg_ hnew_; clear hg_ hnew_; (first | rw [← Ny119.out] at ho22 | (simp only [Int.reduceToNat] at ho22; rw [← Ny119.out] at ho22)); have n0_ := Aside0.mk (Kd.R_lower ho22 (below_size (by repeat (first | (with_reducible first | exact HB.out | apply below_alloc | apply pw_below_drewN | apply below_drew1) | exact HB.out)))); have n1_ := Aside0.mk (below_step (by repeat (first | (with_reducible first | exact HB.out | apply below_alloc | apply pw_below_drewN | apply below_drew1) | exact HB.out)) hb); clear HB; have HO121 := n0_; have HB := n1_; clear n0_ n1_; clear hb ho22; obtain ⟨Ao23, co23, eo23⟩ := Kd.R_slice HO121.out; subst eo23) | ((with_reducible refine gate_callee (f := 43) rfl ?_); refine goesL_ (some 9) rfl rfl Try.func43 (by kernel_rfl) rfl #[.slice Ao23 y119.length co23] rfl (by (try simp only [List.map_toArray, List.map_cons, List.map_nil]); first | done | rfl | (simp only [List.length_drop, List.length_take]; rfl)) ?_; (with_reducible refine (band_Width.calls k _ _ y119 t122 t123 _ ?side1 ?side2 A2.out).mono ?_); (case side1 => repeat (first | exact (Kd.R_reads' HO121.out).2.2 | (with_reducible refine Kd.C_alloc ?_ _) | (with_reducible refine Kd.C_drewN ?_ _) | (with_reducible refine Kd.C_drew ?_))); (case side2 => exact (Kd.R_reads' HO121.out).2.1); rintro e w24 ⟨rfl, hb⟩; refine ⟨_, rfl, ?_⟩; have n0_ := Aside0.mk (Kd.R_below (by (with_reducible repeat (first | apply Kd.R_alloc | apply Kd.R_drewN | apply Kd.R_drew)); exact HO121.out) hb); have n1_ := Aside0.mk (below_step (by repeat (first | (with_reducible first | exact HB.out | apply below_alloc | apply pw_below_drewN | apply below_drew1) | exact HB.out)) hb); clear HO121; clear HB; have HO121 := n0_; have HB := n1_; clear n0_ n1_; (try clear hb); (try clear hb2); (try clear hk); (try clear hi)) | ((with_reducible refine gate_callee (f := 32) rfl ?_); refine goesL_ (some 13) rfl rfl Try.func32 (by kernel_rfl) rfl #[.int .i64 40, .int .i64 0] rfl (by (try simp only [List.map_toArray, List.map_cons, List.map_nil]); first | done | rfl | (simp only [List.length_drop, List.length_take]; rfl)) ?_; (with_reducible refine (band_Kept.calls 40 0 t124 t125 _ A3.out).mono ?_); rintro e w25 ⟨rfl, hb⟩; refine ⟨_, rfl, ?_⟩; have n0_ := Aside0.mk (Kd.R_below (by (with_reducible repeat (first | apply Kd.R_alloc | apply Kd.R_drewN | apply Kd.R_drew)); exact HO121.out) hb); have n1_ := Aside0.mk (below_step (by repeat (first | (with_reducible first | exact HB.out | apply below_alloc | apply pw_below_drewN | apply below_drew1) | exact HB.out)) hb); clear HO121; clear HB; have HO121 := n0_; have HB := n1_; clear n0_ n1_; (try clear hb); (try clear hb2); (try clear hk); (try clear hi)) | ((with_reducible refine gate_callee (f := 31) rfl ?_); refine goesL_ (some 17) rfl rfl Try.func31 (by kernel_rfl) rfl #[.int .i64 41] rfl (by (try simp only [List.map_toArray, List.map_cons, List.map_nil]); first | done | rfl | (simp only [List.length_drop, List.length_take]; rfl)) ?_; (with_reducible refine (band_Edges.calls 41 t126 t127 _ A4.out).mono ?_); rintro e w26 ⟨v128, rfl, ho0, hb⟩; refine ⟨_, rfl, ?_⟩; have n0_ := Aside0.mk (Kd.R_below (by (with_reducible repeat (first | apply Kd.R_alloc | apply Kd.R_drewN | apply Kd.R_drew)); exact HO121.out) hb); have n1_ := Aside0.mk (Kd.R_lower ho0 (below_size (by repeat (first | (with_reducible first | exact HB.out | apply below_alloc | apply pw_below_drewN | apply below_drew1) | exact HB.out)))); have n2_ := Aside0.mk (below_step (by repeat (first | (with_reducible first | exact HB.out | apply below_alloc | apply pw_below_drewN | apply below_drew1) | exact HB.out)) hb); clear HO121; clear HB; have HO121 := n0_; have HO129 := n1_; have HB := n2_; clear n0_ n1_ n2_; (try clear hb); (try clear hb2); (try clear hk); (try clear hi); (try clear ho0)))
          go_ret
          exact ⟨by first | rfl | (simp [errW_none, errW_some] <;> rfl) | (simp [*, errW_none, errW_some] <;> rfl), by repeat (first | (with_reducible first | exact HB.out | apply below_alloc | apply pw_below_drewN | apply below_drew1) | exact HB.out)⟩
      · rw [if_neg c6] at H
        have c6b0 : (t123 == 0) = false := beq_eq_false_iff_ne.mpr c6
        have c6b1 : (t123 != 0) = true := bne_iff_ne.mpr c6
        obtain rfl := Option.some.inj H
        go_enter Try.func30, Try.ntmps30
        go_wp2_with (first | ((with_reducible refine gate_dst (N := 8) rfl ?_); refine Kd.R_make (Kd.int .i32) _ 21 rfl (N := 8) rfl 69 _ _ rfl 40 rfl rfl Try.underlying69 (.int .i32 0) 4 info21 rfl (by decide) (by omega) 0 (ok := fun _ => True) (okp := fun _ => True) rfl (fun _ hk => hk) trivial (by omega) (by omega) (Below.refl _ _) (Nat.le_refl _) ?_; intro v120 w27 ho28 hb hg_ hnew_; clear hg_ hnew_; (first | rw [← Ny119.out] at ho28 | (simp only [Int.reduceToNat] at ho28; rw [← Ny119.out] at ho28)); have n0_ := Aside0.mk (Kd.R_lower ho28 (below_size (by repeat (first | (with_reducible first | exact HB.out | apply below_alloc | apply pw_below_drewN | apply below_drew1) | exact HB.out)))); have n1_ := Aside0.mk (below_step (by repeat (first | (with_reducible first | exact HB.out | apply below_alloc | apply pw_below_drewN | apply below_drew1) | exact HB.out)) hb); clear HB; have HO121 := n0_; have HB := n1_; clear n0_ n1_; clear hb ho28; obtain ⟨Ao29, co29, eo29⟩ := Kd.R_slice HO121.out; subst eo29) | ((with_reducible refine gate_callee (f := 43) rfl ?_); refine goesL_ (some 9) rfl rfl Try.func43 (by kernel_rfl) rfl #[.slice Ao29 y119.length co29] rfl (by (try simp only [List.map_toArray, List.map_cons, List.map_nil]); first | done | rfl | (simp only [List.length_drop, List.length_take]; rfl)) ?_; (with_reducible refine (band_Width.calls k _ _ y119 t122 t123 _ ?side1 ?side2 A2.out).mono ?_); (case side1 => repeat (first | exact (Kd.R_reads' HO121.out).2.2 | (with_reducible refine Kd.C_alloc ?_ _) | (with_reducible refine Kd.C_drewN ?_ _) | (with_reducible refine Kd.C_drew ?_))); (case side2 => exact (Kd.R_reads' HO121.out).2.1); rintro e w30 ⟨rfl, hb⟩; refine ⟨_, rfl, ?_⟩; have n0_ := Aside0.mk (Kd.R_below (by (with_reducible repeat (first | apply Kd.R_alloc | apply Kd.R_drewN | apply Kd.R_drew)); exact HO121.out) hb); have n1_ := Aside0.mk (below_step (by repeat (first | (with_reducible first | exact HB.out | apply below_alloc | apply pw_below_drewN | apply below_drew1) | exact HB.out)) hb); clear HO121; clear HB; have HO121 := n0_; have HB := n1_; clear n0_ n1_; (try clear hb); (try clear hb2); (try clear hk); (try clear hi)) | ((with_reducible refine gate_callee (f := 32) rfl ?_); refine goesL_ (some 13) rfl rfl Try.func32 (by kernel_rfl) rfl #[.int .i64 40, .int .i64 0] rfl (by (try simp only [List.map_toArray, List.map_cons, List.map_nil]); first | done | rfl | (simp only [List.length_drop, List.length_take]; rfl)) ?_; (with_reducible refine (band_Kept.calls 40 0 t124 t125 _ A3.out).mono ?_); rintro e w31 ⟨rfl, hb⟩; refine ⟨_, rfl, ?_⟩; have n0_ := Aside0.mk (Kd.R_below (by (with_reducible repeat (first | apply Kd.R_alloc | apply Kd.R_drewN | apply Kd.R_drew)); exact HO121.out) hb); have n1_ := Aside0.mk (below_step (by repeat (first | (with_reducible first | exact HB.out | apply below_alloc | apply pw_below_drewN | apply below_drew1) | exact HB.out)) hb); clear HO121; clear HB; have HO121 := n0_; have HB := n1_; clear n0_ n1_; (try clear hb); (try clear hb2); (try clear hk); (try clear hi)) | ((with_reducible refine gate_callee (f := 31) rfl ?_); refine goesL_ (some 17) rfl rfl Try.func31 (by kernel_rfl) rfl #[.int .i64 41] rfl (by (try simp only [List.map_toArray, List.map_cons, List.map_nil]); first | done | rfl | (simp only [List.length_drop, List.length_take]; rfl)) ?_; (with_reducible refine (band_Edges.calls 41 t126 t127 _ A4.out).mono ?_); rintro e w32 ⟨v128, rfl, ho0, hb⟩; refine ⟨_, rfl, ?_⟩; have n0_ := Aside0.mk (Kd.R_below (by (with_reducible repeat (first | apply Kd.R_alloc | apply Kd.R_drewN | apply Kd.R_drew)); exact HO121.out) hb); have n1_ := Aside0.mk (Kd.R_lower ho0 (below_size (by repeat (first | (with_reducible first | exact HB.out | apply below_alloc | apply pw_below_drewN | apply below_drew1) | exact HB.out)))); have n2_ := Aside0.mk (below_step (by repeat (first | (with_reducible first | exact HB.out | apply below_alloc | apply pw_below_drewN | apply below_drew1) | exact HB.out)) hb); clear HO121; clear HB; have HO121 := n0_; have HO129 := n1_; have HB := n2_; clear n0_ n1_ n2_; (try clear hb); (try clear hb2); (try clear hk); (try clear hi); (try clear ho0)))
        go_ret
        exact ⟨by first | rfl | (simp [errW_none, errW_some] <;> rfl) | (simp [*, errW_none, errW_some] <;> rfl), by repeat (first | (with_reducible first | exact HB.out | apply below_alloc | apply pw_below_drewN | apply below_drew1) | exact HB.out)⟩
    · rw [if_neg c5] at H
      have c5b0 : (t122 == 0) = false := beq_eq_false_iff_ne.mpr c5
      have c5b1 : (t122 != 0) = true := bne_iff_ne.mpr c5
      obtain rfl := Option.some.inj H
      go_enter Try.func30, Try.ntmps30
      go_wp2_with (first | ((with_reducible refine gate_dst (N := 8) rfl ?_); refine Kd.R_make (Kd.int .i32) _ 21 rfl (N := 8) rfl 69 _ _ rfl 40 rfl rfl Try.underlying69 (.int .i32 0) 4 info21 rfl (by decide) (by omega) 0 (ok := fun _ => True) (okp := fun _ => True) rfl (fun _ hk => hk) trivial (by omega) (by omega) (Below.refl _ _) (Nat.le_refl _) ?_; intro v120 w33 ho34 hb hg_ hnew_; clear hg_ hnew_; (first | rw [← Ny119.out] at ho34 | (simp only [Int.reduceToNat] at ho34; rw [← Ny119.out] at ho34)); have n0_ := Aside0.mk (Kd.R_lower ho34 (below_size (by repeat (first | (with_reducible first | exact HB.out | apply below_alloc | apply pw_below_drewN | apply below_drew1) | exact HB.out)))); have n1_ := Aside0.mk (below_step (by repeat (first | (with_reducible first | exact HB.out | apply below_alloc | apply pw_below_drewN | apply below_drew1) | exact HB.out)) hb); clear HB; have HO121 := n0_; have HB := n1_; clear n0_ n1_; clear hb ho34; obtain ⟨Ao35, co35, eo35⟩ := Kd.R_slice HO121.out; subst eo35) | ((with_reducible refine gate_callee (f := 43) rfl ?_); refine goesL_ (some 9) rfl rfl Try.func43 (by kernel_rfl) rfl #[.slice Ao35 y119.length co35] rfl (by (try simp only [List.map_toArray, List.map_cons, List.map_nil]); first | done | rfl | (simp only [List.length_drop, List.length_take]; rfl)) ?_; (with_reducible refine (band_Width.calls k _ _ y119 t122 t123 _ ?side1 ?side2 A2.out).mono ?_); (case side1 => repeat (first | exact (Kd.R_reads' HO121.out).2.2 | (with_reducible refine Kd.C_alloc ?_ _) | (with_reducible refine Kd.C_drewN ?_ _) | (with_reducible refine Kd.C_drew ?_))); (case side2 => exact (Kd.R_reads' HO121.out).2.1); rintro e w36 ⟨rfl, hb⟩; refine ⟨_, rfl, ?_⟩; have n0_ := Aside0.mk (Kd.R_below (by (with_reducible repeat (first | apply Kd.R_alloc | apply Kd.R_drewN | apply Kd.R_drew)); exact HO121.out) hb); have n1_ := Aside0.mk (below_step (by repeat (first | (with_reducible first | exact HB.out | apply below_alloc | apply pw_below_drewN | apply below_drew1) | exact HB.out)) hb); clear HO121; clear HB; have HO121 := n0_; have HB := n1_; clear n0_ n1_; (try clear hb); (try clear hb2); (try clear hk); (try clear hi)) | ((with_reducible refine gate_callee (f := 32) rfl ?_); refine goesL_ (some 13) rfl rfl Try.func32 (by kernel_rfl) rfl #[.int .i64 40, .int .i64 0] rfl (by (try simp only [List.map_toArray, List.map_cons, List.map_nil]); first | done | rfl | (simp only [List.length_drop, List.length_take]; rfl)) ?_; (with_reducible refine (band_Kept.calls 40 0 t124 t125 _ A3.out).mono ?_); rintro e w37 ⟨rfl, hb⟩; refine ⟨_, rfl, ?_⟩; have n0_ := Aside0.mk (Kd.R_below (by (with_reducible repeat (first | apply Kd.R_alloc | apply Kd.R_drewN | apply Kd.R_drew)); exact HO121.out) hb); have n1_ := Aside0.mk (below_step (by repeat (first | (with_reducible first | exact HB.out | apply below_alloc | apply pw_below_drewN | apply below_drew1) | exact HB.out)) hb); clear HO121; clear HB; have HO121 := n0_; have HB := n1_; clear n0_ n1_; (try clear hb); (try clear hb2); (try clear hk); (try clear hi)) | ((with_reducible refine gate_callee (f := 31) rfl ?_); refine goesL_ (some 17) rfl rfl Try.func31 (by kernel_rfl) rfl #[.int .i64 41] rfl (by (try simp only [List.map_toArray, List.map_cons, List.map_nil]); first | done | rfl | (simp only [List.length_drop, List.length_take]; rfl)) ?_; (with_reducible refine (band_Edges.calls 41 t126 t127 _ A4.out).mono ?_); rintro e w38 ⟨v128, rfl, ho0, hb⟩; refine ⟨_, rfl, ?_⟩; have n0_ := Aside0.mk (Kd.R_below (by (with_reducible repeat (first | apply Kd.R_alloc | apply Kd.R_drewN | apply Kd.R_drew)); exact HO121.out) hb); have n1_ := Aside0.mk (Kd.R_lower ho0 (below_size (by repeat (first | (with_reducible first | exact HB.out | apply below_alloc | apply pw_below_drewN | apply below_drew1) | exact HB.out)))); have n2_ := Aside0.mk (below_step (by repeat (first | (with_reducible first | exact HB.out | apply below_alloc | apply pw_below_drewN | apply below_drew1) | exact HB.out)) hb); clear HO121; clear HB; have HO121 := n0_; have HO129 := n1_; have HB := n2_; clear n0_ n1_ n2_; (try clear hb); (try clear hb2); (try clear hk); (try clear hi); (try clear ho0)))
      go_ret
      exact ⟨by first | rfl | (simp [errW_none, errW_some] <;> rfl) | (simp [*, errW_none, errW_some] <;> rfl), by repeat (first | (with_reducible first | exact HB.out | apply below_alloc | apply pw_below_drewN | apply below_drew1) | exact HB.out)⟩
  · rw [if_neg c1] at H
    exact absurd H (by simp)

/-! ### psalteryref09_May: function 33 -/
def psalteryref09_May.f (a0 : Int) : Option (Bool) := if a0 = 40 then (some true) else (if a0 = 60 then (some true) else (if a0 = 80 then (some true) else (some (a0 == 120))))
set_option maxHeartbeats 8000000 in
set_option maxRecDepth 100000 in
theorem psalteryref09_May.calls (a0 : Int) (r : Bool) (w : World) (h : psalteryref09_May.f a0 = some r) :
    Calls Try.prog 33 #[.int .i64 a0] w fun e w' => e = .returned (.bool r) ∧ Drawn0 w w' := by
  have H : (if a0 = 40 then (some true) else (if a0 = 60 then (some true) else (if a0 = 80 then (some true) else (some (a0 == 120))))) = some r := h
  clear h
  by_cases c2 : a0 = 40
  · rw [if_pos c2] at H
    have c2b0 : (a0 == 40) = true := beq_iff_eq.mpr c2
    have c2b1 : (a0 != 40) = false := bne_eq_false_iff_eq.mpr c2
    clear c2
    obtain rfl := Option.some.inj H
    go_enter Try.func33, Try.ntmps33
    go_wp2
    go_ret
    exact ⟨by first | rfl | (simp; done) | (simp [*]; done), by repeat (first | exact Drawn0.refl _ | apply Drawn0.step)⟩
  · rw [if_neg c2] at H
    have c2b0 : (a0 == 40) = false := beq_eq_false_iff_ne.mpr c2
    have c2b1 : (a0 != 40) = true := bne_iff_ne.mpr c2
    by_cases c3 : a0 = 60
    · rw [if_pos c3] at H
      have c3b0 : (a0 == 60) = true := beq_iff_eq.mpr c3
      have c3b1 : (a0 != 60) = false := bne_eq_false_iff_eq.mpr c3
      clear c3
      obtain rfl := Option.some.inj H
      go_enter Try.func33, Try.ntmps33
      go_wp2
      go_ret
      exact ⟨by first | rfl | (simp; done) | (simp [*]; done), by repeat (first | exact Drawn0.refl _ | apply Drawn0.step)⟩
    · rw [if_neg c3] at H
      have c3b0 : (a0 == 60) = false := beq_eq_false_iff_ne.mpr c3
      have c3b1 : (a0 != 60) = true := bne_iff_ne.mpr c3
      by_cases c4 : a0 = 80
      · rw [if_pos c4] at H
        have c4b0 : (a0 == 80) = true := beq_iff_eq.mpr c4
        have c4b1 : (a0 != 80) = false := bne_eq_false_iff_eq.mpr c4
        clear c4
        obtain rfl := Option.some.inj H
        go_enter Try.func33, Try.ntmps33
        go_wp2
        go_ret
        exact ⟨by first | rfl | (simp; done) | (simp [*]; done), by repeat (first | exact Drawn0.refl _ | apply Drawn0.step)⟩
      · rw [if_neg c4] at H
        have c4b0 : (a0 == 80) = false := beq_eq_false_iff_ne.mpr c4
        have c4b1 : (a0 != 80) = true := bne_iff_ne.mpr c4
        obtain rfl := Option.some.inj H
        go_enter Try.func33, Try.ntmps33
        go_wp2
        go_ret
        exact ⟨by first | rfl | (simp; done) | (simp [*]; done), by repeat (first | exact Drawn0.refl _ | apply Drawn0.step)⟩

/-! ### psalteryref15_Edge: function 34 -/
def psalteryref15_Edge.f (a0 : Int) (a1 : Int) : Option (Int) := if a0 = 40 then ((some (([0, 2, 4, 7, 11, 16, 23, 31, 40] : List Int) : List Int)).bind fun y130 => (if 0 ≤ a1 then (if a1 < (y130.length : Int) then (some (rd y130 a1)) else (none)) else (none))) else (if a0 = 60 then ((some (([0, 3, 6, 10, 16, 24, 34, 46, 60] : List Int) : List Int)).bind fun y134 => (if 0 ≤ a1 then (if a1 < (y134.length : Int) then (some (rd y134 a1)) else (none)) else (none))) else (if a0 = 80 then ((some (([0, 4, 8, 14, 22, 32, 46, 62, 80] : List Int) : List Int)).bind fun y138 => (if 0 ≤ a1 then (if a1 < (y138.length : Int) then (some (rd y138 a1)) else (none)) else (none))) else ((some (([0, 6, 12, 21, 33, 48, 69, 93, 120] : List Int) : List Int)).bind fun y142 => (if 0 ≤ a1 then (if a1 < (y142.length : Int) then (some (rd y142 a1)) else (none)) else (none)))))
set_option maxHeartbeats 8000000 in
set_option maxRecDepth 100000 in
theorem psalteryref15_Edge.calls (a0 : Int) (a1 : Int) (r : Int) (w : World) (h : psalteryref15_Edge.f a0 a1 = some r) :
    Calls Try.prog 34 #[.int .i64 a0, .int .i64 a1] w fun e w' => e = .returned (.int .i64 r) ∧ Below w.heap.size w w' := by
  have HB := Aside0.mk (Below.refl w.heap.size w)
  have H : (if a0 = 40 then ((some (([0, 2, 4, 7, 11, 16, 23, 31, 40] : List Int) : List Int)).bind fun y130 => (if 0 ≤ a1 then (if a1 < (y130.length : Int) then (some (rd y130 a1)) else (none)) else (none))) else (if a0 = 60 then ((some (([0, 3, 6, 10, 16, 24, 34, 46, 60] : List Int) : List Int)).bind fun y134 => (if 0 ≤ a1 then (if a1 < (y134.length : Int) then (some (rd y134 a1)) else (none)) else (none))) else (if a0 = 80 then ((some (([0, 4, 8, 14, 22, 32, 46, 62, 80] : List Int) : List Int)).bind fun y138 => (if 0 ≤ a1 then (if a1 < (y138.length : Int) then (some (rd y138 a1)) else (none)) else (none))) else ((some (([0, 6, 12, 21, 33, 48, 69, 93, 120] : List Int) : List Int)).bind fun y142 => (if 0 ≤ a1 then (if a1 < (y142.length : Int) then (some (rd y142 a1)) else (none)) else (none)))))) = some r := h
  clear h
  by_cases c3 : a0 = 40
  · rw [if_pos c3] at H
    have c3b0 : (a0 == 40) = true := beq_iff_eq.mpr c3
    have c3b1 : (a0 != 40) = false := bne_eq_false_iff_eq.mpr c3
    clear c3
    obtain ⟨y130, hy130⟩ : ∃ y_ : List Int, y_ = (([0, 2, 4, 7, 11, 16, 23, 31, 40] : List Int)) := ⟨_, rfl⟩
    replace H : (if 0 ≤ a1 then (if a1 < (y130.length : Int) then (some (rd y130 a1)) else (none)) else (none)) = some r := by first | (rw [hy130]; with_reducible exact H) | (have H2_ := (Option.bind_some _ _).symm.trans H; rw [hy130]; with_reducible exact H2_) | (have H2_ := (Option.bind_some _ _).symm.trans H; with_reducible exact H2_) | with_reducible exact H | (rw [hy130]; exact H) | exact H
    have Ny130 := Aside0.mk hy130
    clear hy130
    by_cases c4 : 0 ≤ a1
    · rw [if_pos c4] at H
      have c4b0 : decide (0 ≤ a1) = true := decide_eq_true c4
      clear c4
      by_cases c5 : a1 < (y130.length : Int)
      · rw [if_pos c5] at H
        have c5b0 : decide (a1 < (y130.length : Int)) = true := decide_eq_true c5
        clear c5
        obtain rfl := Option.some.inj H
        go_enter Try.func34, Try.ntmps34
        go_wp2_with (first | ((with_reducible refine gate_dst (N := 8) rfl ?_); refine Kd.R_lit (Kd.int .i64) _ 3 ?hg (N := 8) ?hd (xs := ([0, 2, 4, 7, 11, 16, 23, 31, 40] : List Int)) (inner := [.int .i64 0, .int .i64 2, .int .i64 4, .int .i64 7, .int .i64 11, .int .i64 16, .int .i64 23, .int .i64 31, .int .i64 40]) (ok := fun _ => True) (okp := fun _ => True) ?hr ?hp (fun _ hk => hk) trivial (Below.refl _ _) (Nat.le_refl _) (by simp) ?_; (case hd => rfl); (case hg => rfl); (case hr => first | (go_simp; done) | (go_simp; rfl)); (case hp => exact (Reps.one (show Kd.M (Kd.int .i64) _ _ _ 0 [.int .i64 0] from rfl) (Reps.one (show Kd.M (Kd.int .i64) _ _ _ 2 [.int .i64 2] from rfl) (Reps.one (show Kd.M (Kd.int .i64) _ _ _ 4 [.int .i64 4] from rfl) (Reps.one (show Kd.M (Kd.int .i64) _ _ _ 7 [.int .i64 7] from rfl) (Reps.one (show Kd.M (Kd.int .i64) _ _ _ 11 [.int .i64 11] from rfl) (Reps.one (show Kd.M (Kd.int .i64) _ _ _ 16 [.int .i64 16] from rfl) (Reps.one (show Kd.M (Kd.int .i64) _ _ _ 23 [.int .i64 23] from rfl) (Reps.one (show Kd.M (Kd.int .i64) _ _ _ 31 [.int .i64 31] from rfl) (Reps.one (show Kd.M (Kd.int .i64) _ _ _ 40 [.int .i64 40] from rfl) (Reps.none _ _))))))))))); intro v131 w6 ho7 hb hg_ hnew_; clear hg_ hnew_; (first | rw [← Ny130.out] at ho7 | (simp only [Int.reduceToNat] at ho7; rw [← Ny130.out] at ho7)); have n0_ := Aside0.mk (Kd.R_lower ho7 (below_size (by repeat (first | (with_reducible first | exact HB.out | apply below_alloc | apply pw_below_drewN | apply below_drew1) | exact HB.out)))); have n1_ := Aside0.mk (below_step (by repeat (first | (with_reducible first | exact HB.out | apply below_alloc | apply pw_below_drewN | apply below_drew1) | exact HB.out)) hb); clear HB; have HO132 := n0_; have HB := n1_; clear n0_ n1_; clear hb ho7; obtain ⟨Ao8, co8, eo8⟩ := Kd.R_slice HO132.out; subst eo8; have p133 : 0 ≤ (a1 : Int) := of_decide_eq_true (by first | (with_reducible assumption) | assumption); have q133 : a1 < (y130.length : Int) := of_decide_eq_true (by first | (with_reducible assumption) | assumption); obtain ⟨ad133, e133, hx133_0⟩ := Kd.at_int (Kd.R_reads' HO132.out).2.2 a1 p133 q133; cases e133; replace p133 := eq_true p133; replace q133 := eq_true q133))
        go_ret
        exact ⟨by first | rfl | (simp [errW_none, errW_some] <;> rfl) | (simp [*, errW_none, errW_some] <;> rfl), by repeat (first | (with_reducible first | exact HB.out | apply below_alloc | apply pw_below_drewN | apply below_drew1) | exact HB.out)⟩
      · rw [if_neg c5] at H
        exact absurd H (by simp)
    · rw [if_neg c4] at H
      exact absurd H (by simp)
  · rw [if_neg c3] at H
    have c3b0 : (a0 == 40) = false := beq_eq_false_iff_ne.mpr c3
    have c3b1 : (a0 != 40) = true := bne_iff_ne.mpr c3
    by_cases c9 : a0 = 60
    · rw [if_pos c9] at H
      have c9b0 : (a0 == 60) = true := beq_iff_eq.mpr c9
      have c9b1 : (a0 != 60) = false := bne_eq_false_iff_eq.mpr c9
      clear c9
      obtain ⟨y134, hy134⟩ : ∃ y_ : List Int, y_ = (([0, 3, 6, 10, 16, 24, 34, 46, 60] : List Int)) := ⟨_, rfl⟩
      replace H : (if 0 ≤ a1 then (if a1 < (y134.length : Int) then (some (rd y134 a1)) else (none)) else (none)) = some r := by first | (rw [hy134]; with_reducible exact H) | (have H2_ := (Option.bind_some _ _).symm.trans H; rw [hy134]; with_reducible exact H2_) | (have H2_ := (Option.bind_some _ _).symm.trans H; with_reducible exact H2_) | with_reducible exact H | (rw [hy134]; exact H) | exact H
      have Ny134 := Aside0.mk hy134
      clear hy134
      by_cases c10 : 0 ≤ a1
      · rw [if_pos c10] at H
        have c10b0 : decide (0 ≤ a1) = true := decide_eq_true c10
        clear c10
        by_cases c11 : a1 < (y134.length : Int)
        · rw [if_pos c11] at H
          have c11b0 : decide (a1 < (y134.length : Int)) = true := decide_eq_true c11
          clear c11
          obtain rfl := Option.some.inj H
          go_enter Try.func34, Try.ntmps34
          go_wp2_with (first | ((with_reducible refine gate_dst (N := 14) rfl ?_); refine Kd.R_lit (Kd.int .i64) _ 3 ?hg (N := 14) ?hd (xs := ([0, 3, 6, 10, 16, 24, 34, 46, 60] : List Int)) (inner := [.int .i64 0, .int .i64 3, .int .i64 6, .int .i64 10, .int .i64 16, .int .i64 24, .int .i64 34, .int .i64 46, .int .i64 60]) (ok := fun _ => True) (okp := fun _ => True) ?hr ?hp (fun _ hk => hk) trivial (Below.refl _ _) (Nat.le_refl _) (by simp) ?_; (case hd => rfl); (case hg => rfl); (case hr => first | (go_simp; done) | (go_simp; rfl)); (case hp => exact (Reps.one (show Kd.M (Kd.int .i64) _ _ _ 0 [.int .i64 0] from rfl) (Reps.one (show Kd.M (Kd.int .i64) _ _ _ 3 [.int .i64 3] from rfl) (Reps.one (show Kd.M (Kd.int .i64) _ _ _ 6 [.int .i64 6] from rfl) (Reps.one (show Kd.M (Kd.int .i64) _ _ _ 10 [.int .i64 10] from rfl) (Reps.one (show Kd.M (Kd.int .i64) _ _ _ 16 [.int .i64 16] from rfl) (Reps.one (show Kd.M (Kd.int .i64) _ _ _ 24 [.int .i64 24] from rfl) (Reps.one (show Kd.M (Kd.int .i64) _ _ _ 34 [.int .i64 34] from rfl) (Reps.one (show Kd.M (Kd.int .i64) _ _ _ 46 [.int .i64 46] from rfl) (Reps.one (show Kd.M (Kd.int .i64) _ _ _ 60 [.int .i64 60] from rfl) (Reps.none _ _))))))))))); intro v135 w12 ho13 hb hg_ hnew_; clear hg_ hnew_; (first | rw [← Ny134.out] at ho13 | (simp only [Int.reduceToNat] at ho13; rw [← Ny134.out] at ho13)); have n0_ := Aside0.mk (Kd.R_lower ho13 (below_size (by repeat (first | (with_reducible first | exact HB.out | apply below_alloc | apply pw_below_drewN | apply below_drew1) | exact HB.out)))); have n1_ := Aside0.mk (below_step (by repeat (first | (with_reducible first | exact HB.out | apply below_alloc | apply pw_below_drewN | apply below_drew1) | exact HB.out)) hb); clear HB; have HO136 := n0_; have HB := n1_; clear n0_ n1_; clear hb ho13; obtain ⟨Ao14, co14, eo14⟩ := Kd.R_slice HO136.out; subst eo14; have p137 : 0 ≤ (a1 : Int) := of_decide_eq_true (by first | (with_reducible assumption) | assumption); have q137 : a1 < (y134.length : Int) := of_decide_eq_true (by first | (with_reducible assumption) | assumption); obtain ⟨ad137, e137, hx137_0⟩ := Kd.at_int (Kd.R_reads' HO136.out).2.2 a1 p137 q137; cases e137; replace p137 := eq_true p137; replace q137 := eq_true q137))
          go_ret
          exact ⟨by first | rfl | (simp [errW_none, errW_some] <;> rfl) | (simp [*, errW_none, errW_some] <;> rfl), by repeat (first | (with_reducible first | exact HB.out | apply below_alloc | apply pw_below_drewN | apply below_drew1) | exact HB.out)⟩
        · rw [if_neg c11] at H
          exact absurd H (by simp)
      · rw [if_neg c10] at H
        exact absurd H (by simp)
    · rw [if_neg c9] at H
      have c9b0 : (a0 == 60) = false := beq_eq_false_iff_ne.mpr c9
      have c9b1 : (a0 != 60) = true := bne_iff_ne.mpr c9
      by_cases c15 : a0 = 80
      · rw [if_pos c15] at H
        have c15b0 : (a0 == 80) = true := beq_iff_eq.mpr c15
        have c15b1 : (a0 != 80) = false := bne_eq_false_iff_eq.mpr c15
        clear c15
        obtain ⟨y138, hy138⟩ : ∃ y_ : List Int, y_ = (([0, 4, 8, 14, 22, 32, 46, 62, 80] : List Int)) := ⟨_, rfl⟩
        replace H : (if 0 ≤ a1 then (if a1 < (y138.length : Int) then (some (rd y138 a1)) else (none)) else (none)) = some r := by first | (rw [hy138]; with_reducible exact H) | (have H2_ := (Option.bind_some _ _).symm.trans H; rw [hy138]; with_reducible exact H2_) | (have H2_ := (Option.bind_some _ _).symm.trans H; with_reducible exact H2_) | with_reducible exact H | (rw [hy138]; exact H) | exact H
        have Ny138 := Aside0.mk hy138
        clear hy138
        by_cases c16 : 0 ≤ a1
        · rw [if_pos c16] at H
          have c16b0 : decide (0 ≤ a1) = true := decide_eq_true c16
          clear c16
          by_cases c17 : a1 < (y138.length : Int)
          · rw [if_pos c17] at H
            have c17b0 : decide (a1 < (y138.length : Int)) = true := decide_eq_true c17
            clear c17
            obtain rfl := Option.some.inj H
            go_enter Try.func34, Try.ntmps34
            go_wp2_with (first | ((with_reducible refine gate_dst (N := 20) rfl ?_); refine Kd.R_lit (Kd.int .i64) _ 3 ?hg (N := 20) ?hd (xs := ([0, 4, 8, 14, 22, 32, 46, 62, 80] : List Int)) (inner := [.int .i64 0, .int .i64 4, .int .i64 8, .int .i64 14, .int .i64 22, .int .i64 32, .int .i64 46, .int .i64 62, .int .i64 80]) (ok := fun _ => True) (okp := fun _ => True) ?hr ?hp (fun _ hk => hk) trivial (Below.refl _ _) (Nat.le_refl _) (by simp) ?_; (case hd => rfl); (case hg => rfl); (case hr => first | (go_simp; done) | (go_simp; rfl)); (case hp => exact (Reps.one (show Kd.M (Kd.int .i64) _ _ _ 0 [.int .i64 0] from rfl) (Reps.one (show Kd.M (Kd.int .i64) _ _ _ 4 [.int .i64 4] from rfl) (Reps.one (show Kd.M (Kd.int .i64) _ _ _ 8 [.int .i64 8] from rfl) (Reps.one (show Kd.M (Kd.int .i64) _ _ _ 14 [.int .i64 14] from rfl) (Reps.one (show Kd.M (Kd.int .i64) _ _ _ 22 [.int .i64 22] from rfl) (Reps.one (show Kd.M (Kd.int .i64) _ _ _ 32 [.int .i64 32] from rfl) (Reps.one (show Kd.M (Kd.int .i64) _ _ _ 46 [.int .i64 46] from rfl) (Reps.one (show Kd.M (Kd.int .i64) _ _ _ 62 [.int .i64 62] from rfl) (Reps.one (show Kd.M (Kd.int .i64) _ _ _ 80 [.int .i64 80] from rfl) (Reps.none _ _))))))))))); intro v139 w18 ho19 hb hg_ hnew_; clear hg_ hnew_; (first | rw [← Ny138.out] at ho19 | (simp only [Int.reduceToNat] at ho19; rw [← Ny138.out] at ho19)); have n0_ := Aside0.mk (Kd.R_lower ho19 (below_size (by repeat (first | (with_reducible first | exact HB.out | apply below_alloc | apply pw_below_drewN | apply below_drew1) | exact HB.out)))); have n1_ := Aside0.mk (below_step (by repeat (first | (with_reducible first | exact HB.out | apply below_alloc | apply pw_below_drewN | apply below_drew1) | exact HB.out)) hb); clear HB; have HO140 := n0_; have HB := n1_; clear n0_ n1_; clear hb ho19; obtain ⟨Ao20, co20, eo20⟩ := Kd.R_slice HO140.out; subst eo20; have p141 : 0 ≤ (a1 : Int) := of_decide_eq_true (by first | (with_reducible assumption) | assumption); have q141 : a1 < (y138.length : Int) := of_decide_eq_true (by first | (with_reducible assumption) | assumption); obtain ⟨ad141, e141, hx141_0⟩ := Kd.at_int (Kd.R_reads' HO140.out).2.2 a1 p141 q141; cases e141; replace p141 := eq_true p141; replace q141 := eq_true q141))
            go_ret
            exact ⟨by first | rfl | (simp [errW_none, errW_some] <;> rfl) | (simp [*, errW_none, errW_some] <;> rfl), by repeat (first | (with_reducible first | exact HB.out | apply below_alloc | apply pw_below_drewN | apply below_drew1) | exact HB.out)⟩
          · rw [if_neg c17] at H
            exact absurd H (by simp)
        · rw [if_neg c16] at H
          exact absurd H (by simp)
      · rw [if_neg c15] at H
        have c15b0 : (a0 == 80) = false := beq_eq_false_iff_ne.mpr c15
        have c15b1 : (a0 != 80) = true := bne_iff_ne.mpr c15
        obtain ⟨y142, hy142⟩ : ∃ y_ : List Int, y_ = (([0, 6, 12, 21, 33, 48, 69, 93, 120] : List Int)) := ⟨_, rfl⟩
        replace H : (if 0 ≤ a1 then (if a1 < (y142.length : Int) then (some (rd y142 a1)) else (none)) else (none)) = some r := by first | (rw [hy142]; with_reducible exact H) | (have H2_ := (Option.bind_some _ _).symm.trans H; rw [hy142]; with_reducible exact H2_) | (have H2_ := (Option.bind_some _ _).symm.trans H; with_reducible exact H2_) | with_reducible exact H | (rw [hy142]; exact H) | exact H
        have Ny142 := Aside0.mk hy142
        clear hy142
        by_cases c21 : 0 ≤ a1
        · rw [if_pos c21] at H
          have c21b0 : decide (0 ≤ a1) = true := decide_eq_true c21
          clear c21
          by_cases c22 : a1 < (y142.length : Int)
          · rw [if_pos c22] at H
            have c22b0 : decide (a1 < (y142.length : Int)) = true := decide_eq_true c22
            clear c22
            obtain rfl := Option.some.inj H
            go_enter Try.func34, Try.ntmps34
            go_wp2_with (first | ((with_reducible refine gate_dst (N := 24) rfl ?_); refine Kd.R_lit (Kd.int .i64) _ 3 ?hg (N := 24) ?hd (xs := ([0, 6, 12, 21, 33, 48, 69, 93, 120] : List Int)) (inner := [.int .i64 0, .int .i64 6, .int .i64 12, .int .i64 21, .int .i64 33, .int .i64 48, .int .i64 69, .int .i64 93, .int .i64 120]) (ok := fun _ => True) (okp := fun _ => True) ?hr ?hp (fun _ hk => hk) trivial (Below.refl _ _) (Nat.le_refl _) (by simp) ?_; (case hd => rfl); (case hg => rfl); (case hr => first | (go_simp; done) | (go_simp; rfl)); (case hp => exact (Reps.one (show Kd.M (Kd.int .i64) _ _ _ 0 [.int .i64 0] from rfl) (Reps.one (show Kd.M (Kd.int .i64) _ _ _ 6 [.int .i64 6] from rfl) (Reps.one (show Kd.M (Kd.int .i64) _ _ _ 12 [.int .i64 12] from rfl) (Reps.one (show Kd.M (Kd.int .i64) _ _ _ 21 [.int .i64 21] from rfl) (Reps.one (show Kd.M (Kd.int .i64) _ _ _ 33 [.int .i64 33] from rfl) (Reps.one (show Kd.M (Kd.int .i64) _ _ _ 48 [.int .i64 48] from rfl) (Reps.one (show Kd.M (Kd.int .i64) _ _ _ 69 [.int .i64 69] from rfl) (Reps.one (show Kd.M (Kd.int .i64) _ _ _ 93 [.int .i64 93] from rfl) (Reps.one (show Kd.M (Kd.int .i64) _ _ _ 120 [.int .i64 120] from rfl) (Reps.none _ _))))))))))); intro v143 w23 ho24 hb hg_ hnew_; clear hg_ hnew_; (first | rw [← Ny142.out] at ho24 | (simp only [Int.reduceToNat] at ho24; rw [← Ny142.out] at ho24)); have n0_ := Aside0.mk (Kd.R_lower ho24 (below_size (by repeat (first | (with_reducible first | exact HB.out | apply below_alloc | apply pw_below_drewN | apply below_drew1) | exact HB.out)))); have n1_ := Aside0.mk (below_step (by repeat (first | (with_reducible first | exact HB.out | apply below_alloc | apply pw_below_drewN | apply below_drew1) | exact HB.out)) hb); clear HB; have HO144 := n0_; have HB := n1_; clear n0_ n1_; clear hb ho24; obtain ⟨Ao25, co25, eo25⟩ := Kd.R_slice HO144.out; subst eo25; have p145 : 0 ≤ (a1 : Int) := of_decide_eq_true (by first | (with_reducible assumption) | assumption); have q145 : a1 < (y142.length : Int) := of_decide_eq_true (by first | (with_reducible assumption) | assumption); obtain ⟨ad145, e145, hx145_0⟩ := Kd.at_int (Kd.R_reads' HO144.out).2.2 a1 p145 q145; cases e145; replace p145 := eq_true p145; replace q145 := eq_true q145))
            go_ret
            exact ⟨by first | rfl | (simp [errW_none, errW_some] <;> rfl) | (simp [*, errW_none, errW_some] <;> rfl), by repeat (first | (with_reducible first | exact HB.out | apply below_alloc | apply pw_below_drewN | apply below_drew1) | exact HB.out)⟩
          · rw [if_neg c22] at H
            exact absurd H (by simp)
        · rw [if_neg c21] at H
          exact absurd H (by simp)

end Go.Proofs.Ytgmgdbcfgbgnlaa.PBand
