/- The plain statement of the law QuantPairs: middles, sides and joined bands of any two planes are those of the reference. No condition but that numbers are within their kinds. -/
import Derived.Test.YtnaeondfkkiimaaPairsLib
import Derived.Test.YtnaeondfkkiimaaPPairsx9
namespace Go.Proofs.Ytnaeondfkkiimaa.PureQuantPairs
open Go.RowKit Go.Proofs.Ytnaeondfkkiimaa.PPairs Go.Proofs.Ytnaeondfkkiimaa.PairsLib Go.Proofs.Ytnaeondfkkiimaa.Num Go.Proofs.YtnaeondfkkiimaaW.PrintWords Go.Proofs.YtnaeondfkkiimaaW.PrintLast Go.Proofs.YtnaeondfkkiimaaW.PrintMore
set_option linter.unusedSimpArgs false
set_option linter.unusedVariables false

theorem gS_range {a b : Int} (h1 : -2147483648 ≤ a) (h2 : a ≤ 2147483647) (h3 : -2147483648 ≤ b) (h4 : b ≤ 2147483647) : (-2147483648 ≤ gS a b ∧ gS a b ≤ 2147483647) ∧ -2147483648 ≤ hS a b ∧ hS a b ≤ 2147483647 := by
  rw [(S_eq h1 h2 h3 h4).1, (S_eq h1 h2 h3 h4).2]; exact ⟨sat32_range _, sat32_range _⟩
theorem refM {a b : Int} (h1 : -2147483648 ≤ a) (h2 : a ≤ 2147483647) (h3 : -2147483648 ≤ b) (h4 : b ≤ 2147483647) :
    ∃ x y, psalteryref13_down.f (wrap64 (wrap64 a + wrap64 b)) 2 = some x ∧ psalteryref13_down.f (wrap64 (wrap64 a - wrap64 b)) 2 = some y ∧ wrap32 x = gM a b ∧ wrap32 y = hM a b := by
  refine ⟨_, _, rdown_eq (by decide) (by decide) ?_ ?_, rdown_eq (by decide) (by decide) ?_ ?_, rfl, rfl⟩
  all_goals
    rw [w64 (a := a) (by omega) (by omega), w64 (a := b) (by omega) (by omega), w64 (by omega) (by omega)]; omega
theorem refS {a b : Int} (h1 : -2147483648 ≤ a) (h2 : a ≤ 2147483647) (h3 : -2147483648 ≤ b) (h4 : b ≤ 2147483647) :
    ∃ x y, psalteryref01_Sat.f (wrap64 (wrap64 a + wrap64 b)) 32 = some x ∧ psalteryref01_Sat.f (wrap64 (wrap64 a - wrap64 b)) 32 = some y ∧ wrap32 x = gS a b ∧ wrap32 y = hS a b := by
  refine ⟨_, _, rSat32_eq _, rSat32_eq _, ?_, ?_⟩
  · rw [(S_eq h1 h2 h3 h4).1, w64 (a := a) (by omega) (by omega), w64 (a := b) (by omega) (by omega), w64 (by omega) (by omega)]
    have := sat32_range (a + b); exact w32 this.1 this.2
  · rw [(S_eq h1 h2 h3 h4).2, w64 (a := a) (by omega) (by omega), w64 (a := b) (by omega) (by omega), w64 (by omega) (by omega)]
    have := sat32_range (a - b); exact w32 this.1 this.2
theorem mapR_next (g : Int → Int → Int) (a b : List Int) {j : Nat} (hj : j < a.length) : (mapR g a b).take j ++ [g (a.getD j 0) (b.getD j 0)] = (mapR g a b).take (j + 1) := by
  rw [← mapR_at g a b hj]; exact take_next (by rw [mapR_length]; exact hj)
theorem refMiddle_l1 {l r : List (List Int)} {n : Int} (hp : Plane l) (hq : Plane r) (h : Fits l r n) (i : Nat) (hi : i < l.length) (x6 x7 : List (List Int)) (h6 : x6.length ≤ 40) (h7 : x7.length ≤ 40) (d : Nat) : ∀ (k j : Nat), j + d = (l.getD i []).length → d < k →
    ∃ k', d + k' + 1 = k ∧ psalteryref13_Middle.l1 k l r x6 x7 (i : Int) ((mapR gM (l.getD i []) (r.getD i [])).take j) ((mapR hM (l.getD i []) (r.getD i [])).take j) (j : Int) = psalteryref13_Middle.l0 k' l r (x6 ++ [mapR gM (l.getD i []) (r.getD i [])]) (x7 ++ [mapR hM (l.getD i []) (r.getD i [])]) ((i + 1 : Nat) : Int) := by
  obtain ⟨n1, n8, l0, l4, lr, e1, e2⟩ := h
  have r1 := e1.row hi
  have r2 := e2.row (i := i) (by omega)
  induction d with
  | zero =>
    intro k j hj hk
    obtain ⟨k, rfl⟩ : ∃ m, k = m + 1 := ⟨k - 1, by omega⟩
    refine ⟨k, by omega, ?_⟩
    simp only [psalteryref13_Middle.l1, rdL_nat]
    rw [if_pos (by omega), if_pos (by omega), if_neg (by omega), if_pos (by omega), if_pos (by omega), w64 (by omega) (by omega), List.take_of_length_le (by rw [mapR_length]; omega), List.take_of_length_le (by rw [mapR_length]; omega)]; rfl
  | succ d ih =>
    intro k j hj hk
    obtain ⟨k, rfl⟩ : ∃ m, k = m + 1 := ⟨k - 1, by omega⟩
    obtain ⟨k', hk', g⟩ := ih k (j + 1) (by omega) (by omega)
    refine ⟨k', by omega, ?_⟩
    rw [← g]
    have v1 := hp.num (i := i) (k := j) hi
    have v2 := hq.num (i := i) (k := j) (by omega)
    obtain ⟨x, y, f1, f2, f3, f4⟩ := refM v1.1 v1.2 v2.1 v2.2
    have hj2 : j < (l.getD i []).length := by omega
    have t1 : ((mapR gM (l.getD i []) (r.getD i [])).take j).length < 35184372088832 := by rw [List.length_take, mapR_length]; omega
    have t2 : ((mapR hM (l.getD i []) (r.getD i [])).take j).length < 35184372088832 := by rw [List.length_take, mapR_length]; omega
    simp only [psalteryref13_Middle.l1, rdL_nat, rd_nat]
    rw [if_pos (by omega), if_pos (by omega), if_pos (by omega), if_pos (by omega), if_pos (by omega), if_pos (by omega), f1]
    simp only [Option.bind_some]
    rw [if_pos t1, f2]
    simp only [Option.bind_some]
    rw [if_pos t2, f3, f4, mapR_next gM _ _ hj2, mapR_next hM _ _ hj2, w64 (by omega) (by omega)]; rfl
theorem refMiddle_l0 {l r : List (List Int)} {n : Int} (hp : Plane l) (hq : Plane r) (h : Fits l r n) (d : Nat) : ∀ (k i : Nat), i + d = l.length → d * 20 + 1 < k →
    psalteryref13_Middle.l0 k l r ((mapP gM l r).take i) ((mapP hM l r).take i) (i : Int) = some (mapP gM l r, mapP hM l r) := by
  have h' := h
  obtain ⟨n1, n8, l0, l4, lr, e1, e2⟩ := h'
  induction d with
  | zero =>
    intro k i hi hk
    obtain ⟨k, rfl⟩ : ∃ m, k = m + 1 := ⟨k - 1, by omega⟩
    simp only [psalteryref13_Middle.l0]
    rw [if_neg (by omega), List.take_of_length_le (by rw [mapP_length]; omega), List.take_of_length_le (by rw [mapP_length]; omega)]
  | succ d ih =>
    intro k i hi hk
    obtain ⟨k, rfl⟩ : ∃ m, k = m + 1 := ⟨k - 1, by omega⟩
    have hil : i < l.length := by omega
    have r1 := e1.row hil
    simp only [psalteryref13_Middle.l0]
    rw [if_pos (by omega)]
    obtain ⟨k', hk', g⟩ := refMiddle_l1 hp hq h i hil ((mapP gM l r).take i) ((mapP hM l r).take i) (by rw [List.length_take, mapP_length]; omega) (by rw [List.length_take, mapP_length]; omega) (l.getD i []).length k 0 (by omega) (by omega)
    have g' : psalteryref13_Middle.l1 k l r ((mapP gM l r).take i) ((mapP hM l r).take i) (i : Int) [] [] 0 = _ := g
    rw [g', mapP_next gM l r hil, mapP_next hM l r hil]
    exact ih k' (i + 1) (by omega) (by omega)
theorem refMiddle {l r : List (List Int)} {n : Int} (hp : Plane l) (hq : Plane r) (h : Fits l r n) {k : Nat} (hk : 1000 < k) : psalteryref13_Middle.f k l r = some (mapP gM l r, mapP hM l r) := by
  have l4 := h.2.2.2.1
  exact refMiddle_l0 hp hq h l.length k 0 (by omega) (by omega)
theorem refSides_l1 {l r : List (List Int)} {n : Int} (hp : Plane l) (hq : Plane r) (h : Fits l r n) (i : Nat) (hi : i < l.length) (x6 x7 : List (List Int)) (h6 : x6.length ≤ 40) (h7 : x7.length ≤ 40) (d : Nat) : ∀ (k j : Nat), j + d = (l.getD i []).length → d < k →
    ∃ k', d + k' + 1 = k ∧ psalteryref13_Sides.l1 k l r x6 x7 (i : Int) ((mapR gS (l.getD i []) (r.getD i [])).take j) ((mapR hS (l.getD i []) (r.getD i [])).take j) (j : Int) = psalteryref13_Sides.l0 k' l r (x6 ++ [mapR gS (l.getD i []) (r.getD i [])]) (x7 ++ [mapR hS (l.getD i []) (r.getD i [])]) ((i + 1 : Nat) : Int) := by
  obtain ⟨n1, n8, l0, l4, lr, e1, e2⟩ := h
  have r1 := e1.row hi
  have r2 := e2.row (i := i) (by omega)
  induction d with
  | zero =>
    intro k j hj hk
    obtain ⟨k, rfl⟩ : ∃ m, k = m + 1 := ⟨k - 1, by omega⟩
    refine ⟨k, by omega, ?_⟩
    simp only [psalteryref13_Sides.l1, rdL_nat]
    rw [if_pos (by omega), if_pos (by omega), if_neg (by omega), if_pos (by omega), if_pos (by omega), w64 (by omega) (by omega), List.take_of_length_le (by rw [mapR_length]; omega), List.take_of_length_le (by rw [mapR_length]; omega)]; rfl
  | succ d ih =>
    intro k j hj hk
    obtain ⟨k, rfl⟩ : ∃ m, k = m + 1 := ⟨k - 1, by omega⟩
    obtain ⟨k', hk', g⟩ := ih k (j + 1) (by omega) (by omega)
    refine ⟨k', by omega, ?_⟩
    rw [← g]
    have v1 := hp.num (i := i) (k := j) hi
    have v2 := hq.num (i := i) (k := j) (by omega)
    obtain ⟨x, y, f1, f2, f3, f4⟩ := refS v1.1 v1.2 v2.1 v2.2
    have hj2 : j < (l.getD i []).length := by omega
    have t1 : ((mapR gS (l.getD i []) (r.getD i [])).take j).length < 35184372088832 := by rw [List.length_take, mapR_length]; omega
    have t2 : ((mapR hS (l.getD i []) (r.getD i [])).take j).length < 35184372088832 := by rw [List.length_take, mapR_length]; omega
    simp only [psalteryref13_Sides.l1, rdL_nat, rd_nat]
    rw [if_pos (by omega), if_pos (by omega), if_pos (by omega), if_pos (by omega), if_pos (by omega), if_pos (by omega), f1]
    simp only [Option.bind_some]
    rw [if_pos t1, f2]
    simp only [Option.bind_some]
    rw [if_pos t2, f3, f4, mapR_next gS _ _ hj2, mapR_next hS _ _ hj2, w64 (by omega) (by omega)]; rfl
theorem refSides_l0 {l r : List (List Int)} {n : Int} (hp : Plane l) (hq : Plane r) (h : Fits l r n) (d : Nat) : ∀ (k i : Nat), i + d = l.length → d * 20 + 1 < k →
    psalteryref13_Sides.l0 k l r ((mapP gS l r).take i) ((mapP hS l r).take i) (i : Int) = some (mapP gS l r, mapP hS l r) := by
  have h' := h
  obtain ⟨n1, n8, l0, l4, lr, e1, e2⟩ := h'
  induction d with
  | zero =>
    intro k i hi hk
    obtain ⟨k, rfl⟩ : ∃ m, k = m + 1 := ⟨k - 1, by omega⟩
    simp only [psalteryref13_Sides.l0]
    rw [if_neg (by omega), List.take_of_length_le (by rw [mapP_length]; omega), List.take_of_length_le (by rw [mapP_length]; omega)]
  | succ d ih =>
    intro k i hi hk
    obtain ⟨k, rfl⟩ : ∃ m, k = m + 1 := ⟨k - 1, by omega⟩
    have hil : i < l.length := by omega
    have r1 := e1.row hil
    simp only [psalteryref13_Sides.l0]
    rw [if_pos (by omega)]
    obtain ⟨k', hk', g⟩ := refSides_l1 hp hq h i hil ((mapP gS l r).take i) ((mapP hS l r).take i) (by rw [List.length_take, mapP_length]; omega) (by rw [List.length_take, mapP_length]; omega) (l.getD i []).length k 0 (by omega) (by omega)
    have g' : psalteryref13_Sides.l1 k l r ((mapP gS l r).take i) ((mapP hS l r).take i) (i : Int) [] [] 0 = _ := g
    rw [g', mapP_next gS l r hil, mapP_next hS l r hil]
    exact ih k' (i + 1) (by omega) (by omega)
theorem refSides {l r : List (List Int)} {n : Int} (hp : Plane l) (hq : Plane r) (h : Fits l r n) {k : Nat} (hk : 1000 < k) : psalteryref13_Sides.f k l r = some (mapP gS l r, mapP hS l r) := by
  have l4 := h.2.2.2.1
  exact refSides_l0 hp hq h l.length k 0 (by omega) (by omega)
theorem Same_self {l : List (List Int)} {n : Int} (hl : l.length ≤ 40) (n8 : n ≤ 8) (he : Even l n) {k : Nat} (hk : 1000 < k) : psalteryref13_Same.f k l l = some true := by
  unfold psalteryref13_Same.f
  rw [if_pos rfl]
  have key : ∀ (d k i : Nat), i + d = l.length → d * 20 + 2 < k → psalteryref13_Same.l0 k l l (i : Int) = some true := by
    intro d
    induction d with
    | zero =>
      intro k i hi hk
      obtain ⟨k, rfl⟩ : ∃ m, k = m + 1 := ⟨k - 1, by omega⟩
      simp only [psalteryref13_Same.l0]
      rw [if_neg (by omega)]
    | succ d ih =>
      intro k i hi hk
      obtain ⟨k, rfl⟩ : ∃ m, k = m + 1 := ⟨k - 1, by omega⟩
      have hil : i < l.length := by omega
      have r1 := he.row hil
      simp only [psalteryref13_Same.l0]
      simp only [if_true]
      rw [if_pos (by omega), if_pos (by omega), if_pos (by omega)]
      have inner : ∀ (c k j : Nat), j + c = (l.getD i []).length → c + d * 20 + 3 < k → psalteryref13_Same.l1 k l l (i : Int) (j : Int) = some true := by
        intro c
        induction c with
        | zero =>
          intro k j hj hk
          obtain ⟨k, rfl⟩ : ∃ m, k = m + 1 := ⟨k - 1, by omega⟩
          simp only [psalteryref13_Same.l1, rdL_nat]
          rw [if_pos (by omega), if_pos (by omega), if_neg (by omega), w64 (by omega) (by omega)]
          exact ih k (i + 1) (by omega) (by omega)
        | succ c ihc =>
          intro k j hj hk
          obtain ⟨k, rfl⟩ : ∃ m, k = m + 1 := ⟨k - 1, by omega⟩
          simp only [psalteryref13_Same.l1, rdL_nat]
          rw [if_pos (by omega), if_pos (by omega), if_pos (by omega), if_pos (by omega), if_pos (by omega), if_pos (by omega), if_pos True.intro, w64 (by omega) (by omega)]
          exact ihc k (j + 1) (by omega) (by omega)
      exact inner (l.getD i []).length k 0 (by omega) (by omega)
  exact key l.length k 0 (by omega) (by omega)
/-- The scales of a plane. -/
theorem Scales_both {l : List (List Int)} {n : Int} (hp : Plane l) (n1 : 1 ≤ n) (n8 : n ≤ 8) (h0 : 0 < l.length) (hl : l.length ≤ 40) (he : Even l n) :
    ∃ s, s.length = n.toNat ∧ quant_Scales.f scK l = some (s, 0) ∧ ∀ k, 600 < k → psalteryref13_Scales.f k l = some s := by
  obtain ⟨r, g1, g2, g3⟩ := Scales_l01 hp hl he (by omega) n8 l.length 600 (List.replicate n.toNat 0) 0 (by omega) (by omega) (by omega) (by omega) (by simp) (fun b _ _ => rd_replicate)
  obtain ⟨q, f1, f2, f3⟩ := rScales_l0 hp hl he (by omega) n8 h0 n.toNat 600 [] 0 (by omega) (by omega) (by omega) (by omega) rfl (fun j a c => by omega)
  have hrq : r = q := ext_rd (by omega) fun i h0 h1 => by rw [g3 i h0 (by omega), f3 i h0 (by omega)]
  subst hrq
  refine ⟨r, g2, ?_, fun k hk => ?_⟩
  · have h6 : quant_Scales.f 600 l = some (r, 0) := by
      unfold quant_Scales.f
      rw [bands_even n1 n8 h0 hl he (by decide)]; simp only [Option.bind_some]
      rw [if_neg (by omega), if_pos (by omega), if_pos (by omega)]; exact g1
    exact at_rounds (g := fun k => quant_Scales.f k l) (fun k => quant_Scales.mono l k) (show 600 ≤ scK by unfold scK; omega) h6
  · have h6 : psalteryref13_Scales.f 600 l = some r := f1
    exact at_rounds (g := fun k => psalteryref13_Scales.f k l) (fun k => psalteryref13_Scales.mono l k) (show 600 ≤ k by omega) h6
theorem rJoins_l0 (sc : Nat → List Int) {n : Nat} (hs : ∀ j, j < 4 → (sc j).length = n) (hn : n ≤ 8) (d : Nat) : ∀ (k i : Nat), i + d = n → d < k → psalteryref13_Joins.l0 k (sc 0) (sc 1) (sc 2) (sc 3) ((joinsB sc).take i) (i : Int) = some (joinsB sc) := by
  have h0 := hs 0 (by decide); have h1 := hs 1 (by decide); have h2 := hs 2 (by decide); have h3 := hs 3 (by decide)
  have hj : (joinsB sc).length = n := by rw [joinsB_length, h0]
  induction d with
  | zero =>
    intro k i hi hk
    obtain ⟨k, rfl⟩ : ∃ m, k = m + 1 := ⟨k - 1, by omega⟩
    simp only [psalteryref13_Joins.l0]
    rw [if_neg (by omega), List.take_of_length_le (by omega)]
  | succ d ih =>
    intro k i hi hk
    obtain ⟨k, rfl⟩ : ∃ m, k = m + 1 := ⟨k - 1, by omega⟩
    simp only [psalteryref13_Joins.l0, rd_nat]
    have hnext : (joinsB sc).take i ++ [(joinsB sc).getD i false] = (joinsB sc).take (i + 1) := by
      have hil : i < (joinsB sc).length := by omega
      rw [List.take_succ_eq_append_getElem hil, List.getD_eq_getElem?_getD, List.getElem?_eq_getElem hil]; rfl
    have htl : ((joinsB sc).take i).length < 140737488355328 := by rw [List.length_take]; omega
    rw [if_pos (by omega), w64 (a := (i : Int) + 1) (by omega) (by omega)]
    by_cases g : i + 1 < n
    · rw [if_pos (by omega), if_pos (by omega), if_pos (by omega), if_pos (by omega), if_pos (by omega), if_pos htl]
      have e := joinsB_at sc (k := i) (by omega)
      rw [show decide (wrap64 ((sc 0).getD i 0 + (sc 1).getD i 0) > wrap64 ((sc 2).getD i 0 + (sc 3).getD i 0)) = (joinsB sc).getD i false from by rw [e], hnext]
      exact ih k (i + 1) (by omega) (by omega)
    · rw [if_neg (by omega), if_pos htl]
      have e := joinsB_last sc (k := i) (by omega)
      rw [show [false] = [(joinsB sc).getD i false] from by rw [e], hnext]
      exact ih k (i + 1) (by omega) (by omega)
theorem Joins_both {l r : List (List Int)} {n : Int} (hp : Plane l) (hq : Plane r) (h : Fits l r n) (hb : quant_bands.f 1000 l = some n ∧ quant_bands.f 1000 r = some n) :
    ∃ j, j.length ≤ 8 ∧ quant_Joins.f l r = some (j, 0) ∧ ∀ k, 1500 < k → psalteryref13_Joins.f k l r = some j := by
  have h' := h
  obtain ⟨n1, n8, l0, l4, lr, e1, e2⟩ := h'
  have pm : Plane (mapP gM l r) := mapP_plane hp gM_range
  have ps : Plane (mapP hM l r) := mapP_plane hp hM_range
  obtain ⟨a, a1, a2, a3⟩ := Scales_both hp n1 n8 l0 l4 e1
  obtain ⟨b, b1, b2, b3⟩ := Scales_both hq n1 n8 (by omega) (by omega) e2
  obtain ⟨c, c1, c2, c3⟩ := Scales_both pm n1 n8 (by rw [mapP_length]; exact l0) (by rw [mapP_length]; exact l4) (mapP_even e1)
  obtain ⟨d, d1, d2, d3⟩ := Scales_both ps n1 n8 (by rw [mapP_length]; exact l0) (by rw [mapP_length]; exact l4) (mapP_even e1)
  have hs : ∀ j, j < 4 → (four a b c d j).length = n.toNat := fun j hj => by
    have hcs : j = 0 ∨ j = 1 ∨ j = 2 ∨ j = 3 := by omega
    rcases hcs with rfl | rfl | rfl | rfl
    · exact a1
    · exact b1
    · exact c1
    · exact d1
  have h0 := hs 0 (by decide)
  refine ⟨joinsB (four a b c d), by rw [joinsB_length, h0]; omega, ?_, fun k hk => ?_⟩
  · unfold quant_Joins.f
    rw [Middle_fit h hb]; simp only [Option.bind_some]
    rw [if_neg (by decide), a2]; simp only [Option.bind_some]
    rw [b2]; simp only [Option.bind_some]
    rw [c2]; simp only [Option.bind_some]
    rw [d2]; simp only [Option.bind_some]
    have ok : joinsOK (four a b c d) = true := by
      unfold joinsOK
      rw [Bool.and_eq_true, Bool.and_eq_true, decide_eq_true_eq, decide_eq_true_eq, List.all_eq_true]
      refine ⟨⟨by omega, by omega⟩, fun j hj => ?_⟩
      rw [decide_eq_true_eq, hs j (List.mem_range.1 hj), h0]
    rw [if_pos ok]
  · unfold psalteryref13_Joins.f
    rw [refMiddle hp hq h (by omega)]; simp only [Option.bind_some]
    rw [a3 k (by omega)]; simp only [Option.bind_some]
    rw [b3 k (by omega)]; simp only [Option.bind_some]
    rw [c3 k (by omega)]; simp only [Option.bind_some]
    rw [d3 k (by omega)]; simp only [Option.bind_some]
    exact rJoins_l0 (four a b c d) hs (by omega) n.toNat k 0 (by omega) (by omega)
theorem end_l0 {a b c d : List (List Int)} {j : List Bool} {n : Int} (n8 : n ≤ 8) (ha : a.length ≤ 40 ∧ Even a n) (hb : b.length ≤ 40 ∧ Even b n) (hc : c.length ≤ 40 ∧ Even c n) (hd : d.length ≤ 40 ∧ Even d n) (hj : j.length ≤ 8) (e : Nat) : ∀ (k i : Nat), i + e = j.length → e + 1002 < k →
    psalterylaw13_QuantPairs.l0 k a b c d j a b c d j (i : Int) = some true := by
  induction e with
  | zero =>
    intro k i hi hk
    obtain ⟨k, rfl⟩ : ∃ m, k = m + 1 := ⟨k - 1, by omega⟩
    simp only [psalterylaw13_QuantPairs.l0]
    rw [if_neg (by omega), Same_self ha.1 n8 ha.2 (by omega)]; simp only [Option.bind_some, if_true]
    rw [Same_self hb.1 n8 hb.2 (by omega)]; simp only [Option.bind_some, if_true]
    rw [Same_self hc.1 n8 hc.2 (by omega)]; simp only [Option.bind_some, if_true]
    rw [Same_self hd.1 n8 hd.2 (by omega)]; simp only [Option.bind_some]
  | succ e ih =>
    intro k i hi hk
    obtain ⟨k, rfl⟩ : ∃ m, k = m + 1 := ⟨k - 1, by omega⟩
    simp only [psalterylaw13_QuantPairs.l0]
    rw [if_pos (by omega), if_pos (by omega), if_pos (by omega), bne_self_eq_false, if_neg Bool.false_ne_true, w64 (by omega) (by omega)]
    exact ih k (i + 1) (by omega) (by omega)
theorem QuantPairs (l r : List (List Int)) (hp : Plane l) (hq : Plane r) : psalterylaw13_QuantPairs.f 3000 l r = some true := by
  unfold psalterylaw13_QuantPairs.f
  rw [alive_eq (by decide)]; simp only [Option.bind_some, if_true]
  have yes : psalterylaw13_QuantPairs.j0 (2999 + 1) l r true = some true := by simp only [psalterylaw13_QuantPairs.j0, if_true]
  rw [show (3000 : Nat) = 2999 + 1 from rfl]
  rcases Far_eq l (k := 2999 + 1) (by decide) with hf | ⟨hf, hl⟩
  · rw [hf]; simp only [Option.bind_some, if_true]; exact yes
  · rw [hf]; simp only [Option.bind_some]; rw [if_neg Bool.false_ne_true]
    rcases Far_eq r (k := 2999 + 1) (by decide) with hg | ⟨hg, hr⟩
    · rw [hg]; simp only [Option.bind_some]; exact yes
    · rw [hg]; simp only [Option.bind_some, psalterylaw13_QuantPairs.j0]
      rw [if_neg Bool.false_ne_true]
      rcases pair_cases hl hr with ⟨n, hft, hb⟩ | ⟨n, m, hb, n0, hbad⟩
      · have hk := hb 1000 (by decide)
        have hfit : psalteryref13_Fit.f 2999 l r = some true := by
          obtain ⟨n1, n8, l0, l4, lr, e1, e2⟩ := hft
          have h9 := hb 2999 (by decide)
          unfold psalteryref13_Fit.f
          rw [h9.2.2.1, h9.2.2.2]; simp only [Option.bind_some]
          rw [if_pos (by omega), if_pos trivial, lr]; simp
        obtain ⟨j, j8, j1, j2⟩ := Joins_both hp hq hft ⟨hk.1, hk.2.1⟩
        rw [Middle_fit hft ⟨hk.1, hk.2.1⟩, Sides_fit hft ⟨hk.1, hk.2.1⟩, j1]; simp only [Option.bind_some]
        rw [hfit]; simp only [Option.bind_some, if_true]
        rw [refMiddle hp hq hft (by omega), refSides hp hq hft (by omega), j2 2999 (by omega)]; simp only [Option.bind_some]
        have hne : ((j.length : Int) != (j.length : Int)) = false := bne_self_eq_false _
        rw [hne, show (2999 : Nat) = 2998 + 1 from rfl]
        simp only [psalterylaw13_QuantPairs.j1]
        rw [if_neg Bool.false_ne_true]
        obtain ⟨n1, n8, l0, l4, lr, e1, e2⟩ := hft
        exact end_l0 n8 ⟨by rw [mapP_length]; exact l4, mapP_even e1⟩ ⟨by rw [mapP_length]; exact l4, mapP_even e1⟩ ⟨by rw [mapP_length]; exact l4, mapP_even e1⟩ ⟨by rw [mapP_length]; exact l4, mapP_even e1⟩ j8 j.length 2998 0 (by omega) (by omega)
      · have hk := hb 1000 (by decide)
        obtain ⟨m1, m2⟩ := Middle_bad ⟨hk.1, hk.2.1⟩ hbad
        have hfit : psalteryref13_Fit.f 2999 l r = some false := by
          have h9 := hb 2999 (by decide)
          unfold psalteryref13_Fit.f
          rw [h9.2.2.1, h9.2.2.2]; simp only [Option.bind_some]
          by_cases c0 : n > 0
          · rw [if_pos c0]
            by_cases c1 : n = m
            · rw [if_pos c1]; congr 1
              have : l.length ≠ r.length := by omega
              exact beq_eq_false_iff_ne.2 (by omega)
            · rw [if_neg c1]
          · rw [if_neg c0]
        have hj : quant_Joins.f l r = some ([], 1) := by
          unfold quant_Joins.f; rw [m1]; simp only [Option.bind_some]; rw [if_pos (by decide)]
        rw [m1, m2, hj]; simp only [Option.bind_some]
        rw [hfit]; simp only [Option.bind_some]
        rw [if_neg Bool.false_ne_true]
        decide +kernel
end Go.Proofs.Ytnaeondfkkiimaa.PureQuantPairs
