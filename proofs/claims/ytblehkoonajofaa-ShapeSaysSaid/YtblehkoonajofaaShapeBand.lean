/- Edges and energies: the functions of band and psalteryref15, as far as the key Shape has them, as plain functions. -/
import Derived.Test.YtblehkoonajofaaPShapex0
import Derived.Test.YtblehkoonajofaaPShapex1
import Derived.Test.YtblehkoonajofaaPShapex2
import Derived.Test.YtblehkoonajofaaPShapex3
import Derived.Test.YtblehkoonajofaaNum
import Derived.Test.YtblehkoonajofaaFill
namespace Go.Proofs.Ytblehkoonajofaa.ShapeBand
open Go.RowKit Go.Proofs.Ytblehkoonajofaa.PShape Go.Proofs.Ytblehkoonajofaa.Num Go.Proofs.YtblehkoonajofaaW.PrintWords Go.Proofs.YtblehkoonajofaaW.PrintLast Go.Proofs.YtblehkoonajofaaW.PrintMore
set_option linter.unusedVariables false
set_option linter.unusedSimpArgs false

def Lines (l : List Int) : Prop := ∀ x ∈ l, -2147483648 ≤ x ∧ x ≤ 2147483647
theorem Lines.of {l : List Int} (h : ∀ x ∈ l, (Lit.int .i32 x).wf = true) : Lines l := fun x hx => i32_of (h x hx)
theorem Lines.at {l : List Int} (h : Lines l) {i : Int} (h0 : 0 ≤ i) (h1 : i < l.length) : -2147483648 ≤ rd l i ∧ rd l i ≤ 2147483647 := rd_all h h0 h1
/-- The energy of a line. -/
def lineE (v : Int) : Int := (max v (-v) / 8) * (max v (-v) / 8)
theorem lineE_range {v : Int} (h1 : -2147483648 ≤ v) (h2 : v ≤ 2147483647) : 0 ≤ lineE v ∧ lineE v ≤ 72057594037927936 ∧ 0 ≤ max v (-v) / 8 ∧ max v (-v) / 8 ≤ 268435456 := by
  have a : 0 ≤ max v (-v) / 8 ∧ max v (-v) / 8 ≤ 268435456 := by omega
  have b := mul_abs (A := 268435456) (B := 268435456) (a := max v (-v) / 8) (b := max v (-v) / 8) (by omega) (by omega) (by omega) (by omega)
  have c : 0 ≤ lineE v := Int.mul_nonneg a.1 a.1
  unfold lineE at *
  omega
theorem lineE_zero : lineE 0 = 0 := by decide
def enS (l : List Int) : Nat → Int
  | 0 => 0
  | n + 1 => enS l n + lineE (rd l n)
theorem enS_range {l : List Int} (h : Lines l) : ∀ n : Nat, n ≤ l.length → 0 ≤ enS l n ∧ enS l n ≤ 72057594037927936 * n
  | 0, _ => by simp [enS]
  | n + 1, hn => by
    have a := enS_range h n (by omega)
    have s := h.at (i := n) (by omega) (by omega)
    have b := lineE_range s.1 s.2
    simp only [enS]
    omega
theorem enS_mono {l : List Int} (h : Lines l) {m n : Nat} (hmn : m ≤ n) (hn : n ≤ l.length) : enS l m ≤ enS l n := by
  induction n with
  | zero => have : m = 0 := by omega
            subst this; exact Int.le_refl _
  | succ n ih =>
    by_cases e : m = n + 1
    · subst e; exact Int.le_refl _
    · have := ih (by omega) (by omega)
      have s := h.at (i := n) (by omega) (by omega)
      have b := lineE_range s.1 s.2
      simp only [enS]
      omega
theorem mxe {v : Int} (h1 : -2147483648 ≤ v) (h2 : v ≤ 2147483647) : wrap64 (Int.tdiv (mx (wrap64 v) (wrap64 (-(wrap64 v)))) 8) = max v (-v) / 8 := by
  rw [w64 (a := v) (by omega) (by omega), w64 (a := -v) (by omega) (by omega)]
  have e : mx v (-v) = max v (-v) := by unfold mx; split <;> omega
  rw [e, Int.tdiv_eq_ediv_of_nonneg (by omega), w64 (by omega) (by omega)]
theorem energy_l0 {l : List Int} (h : Lines l) (hl : l.length ≤ 120) (d : Nat) : ∀ (k : Nat) (i : Nat), i ≤ l.length → l.length - i = d → d < k → band_energy.l0 k (enS l i) l (l.length : Int) (i : Int) = some (enS l l.length) := by
  induction d with
  | zero =>
    intro k i hi hd hk
    obtain ⟨k, rfl⟩ : ∃ m, k = m + 1 := ⟨k - 1, by omega⟩
    simp only [band_energy.l0]
    rw [if_neg (by omega), show i = l.length by omega]
  | succ d ih =>
    intro k i hi hd hk
    obtain ⟨k, rfl⟩ : ∃ m, k = m + 1 := ⟨k - 1, by omega⟩
    simp only [band_energy.l0]
    have s := h.at (i := i) (by omega) (by omega)
    have b := lineE_range s.1 s.2
    have a := enS_range h i (by omega)
    rw [if_pos (by omega), if_pos (by omega), if_pos (by omega), mxe s.1 s.2]
    have e : (max (rd l i) (-(rd l i)) / 8) * (max (rd l i) (-(rd l i)) / 8) = lineE (rd l i) := rfl
    rw [e, w64 (a := lineE _) (by omega) (by omega), wu64 (a := lineE _) (by omega) (by omega), wu64 (by omega) (by omega), w64 (by omega) (by omega)]
    exact ih k (i + 1) (by omega) (by omega) (by omega)
theorem energy_eq {l : List Int} (h : Lines l) (hl : l.length ≤ 120) {k : Nat} (hk : l.length < k) : band_energy.f k l = some (enS l l.length) := energy_l0 h hl l.length k 0 (by omega) (by omega) hk

/-! parts of a list -/
theorem seg_len {l : List Int} {a b : Int} (h0 : 0 ≤ a) (h1 : a ≤ b) (h2 : b ≤ l.length) : ((seg l a b).length : Int) = b - a := by
  unfold seg; rw [List.length_drop, List.length_take]; omega
theorem rd_seg {l : List Int} {a b j : Int} (h0 : 0 ≤ a) (h1 : a ≤ b) (h2 : b ≤ l.length) (j0 : 0 ≤ j) (j1 : j < b - a) : rd (seg l a b) j = rd l (a + j) := by
  unfold seg rd
  rw [List.getD_eq_getElem?_getD, List.getD_eq_getElem?_getD, List.getElem?_drop, List.getElem?_take_of_lt (by omega), show a.toNat + j.toNat = (a + j).toNat by omega]
theorem Lines.seg {l : List Int} (h : Lines l) (a b : Int) : Lines (seg l a b) := fun x hx => by
  unfold PShape.seg at hx
  exact h x (List.mem_of_mem_take (List.mem_of_mem_drop hx))
theorem enS_seg {l : List Int} {a b : Int} (h0 : 0 ≤ a) (h1 : a ≤ b) (h2 : b ≤ l.length) : ∀ n : Nat, (n : Int) ≤ b - a → enS (seg l a b) n = enS l (a.toNat + n) - enS l a.toNat
  | 0, _ => by simp [enS]
  | n + 1, hn => by
    have ih := enS_seg h0 h1 h2 n (by omega)
    show enS (seg l a b) n + lineE (rd (seg l a b) n) = enS l (a.toNat + n) + lineE (rd l ((a.toNat + n : Nat) : Int)) - enS l a.toNat
    rw [ih, rd_seg h0 h1 h2 (by omega) (by omega), show a + (n : Int) = ((a.toNat + n : Nat) : Int) by omega]
    omega
theorem seg_energy {l : List Int} (h : Lines l) (hl : l.length ≤ 120) {a b : Int} (h0 : 0 ≤ a) (h1 : a ≤ b) (h2 : b ≤ l.length) {k : Nat} (hk : l.length < k) : band_energy.f k (seg l a b) = some (enS l b.toNat - enS l a.toNat) := by
  have sl := seg_len h0 h1 h2
  rw [energy_eq (h.seg a b) (by omega) (by omega), enS_seg h0 h1 h2 _ (by omega), show a.toNat + (seg l a b).length = b.toNat by omega]

/-! the edges -/
theorem edges_ok : ∀ n : Int, edgesV n ≠ [] → (edgesV n).length = 9 ∧ rd (edgesV n) 0 = 0 ∧ rd (edgesV n) 8 = n ∧ 0 < n ∧ n ≤ 120 ∧
    (0 ≤ rd (edgesV n) 1 ∧ rd (edgesV n) 1 ≤ rd (edgesV n) 2 ∧ rd (edgesV n) 2 ≤ rd (edgesV n) 3 ∧ rd (edgesV n) 3 ≤ rd (edgesV n) 4 ∧ rd (edgesV n) 4 ≤ rd (edgesV n) 5 ∧ rd (edgesV n) 5 ≤ rd (edgesV n) 6 ∧ rd (edgesV n) 6 ≤ rd (edgesV n) 7 ∧ rd (edgesV n) 7 ≤ n) := by
  intro n hn
  rcases edges_cases n with rfl | rfl | rfl | rfl | ⟨_, he⟩
  · decide +kernel
  · decide +kernel
  · decide +kernel
  · decide +kernel
  · exact absurd he hn
/-- The energies of the bands. -/
def dE (l es : List Int) (b : Int) : Int := enS l (rd es (b + 1)).toNat - enS l (rd es b).toNat
def enL (l es : List Int) : List Int := [dE l es 0, dE l es 1, dE l es 2, dE l es 3, dE l es 4, dE l es 5, dE l es 6, dE l es 7]
theorem rd_enL (l es : List Int) {b : Int} (h0 : 0 ≤ b) (h1 : b < 8) : rd (enL l es) b = dE l es b := by
  have : b = 0 ∨ b = 1 ∨ b = 2 ∨ b = 3 ∨ b = 4 ∨ b = 5 ∨ b = 6 ∨ b = 7 := by omega
  rcases this with rfl | rfl | rfl | rfl | rfl | rfl | rfl | rfl <;> rfl
theorem enAll_eq {l : List Int} (h : Lines l) (he : edgesV (l.length : Int) ≠ []) {k : Nat} (hk : l.length < k) : enAll (band_energy.f k) l (edgesV (l.length : Int)) = some (enL l (edgesV (l.length : Int))) := by
  obtain ⟨_, e0, e8, _, n1, o1, o2, o3, o4, o5, o6, o7, o8⟩ := edges_ok _ he
  have hl : l.length ≤ 120 := by omega
  unfold enAll
  rw [seg_energy h hl (by omega) (by omega) (by omega) hk]; simp only [Option.bind_some]
  rw [seg_energy h hl (by omega) (by omega) (by omega) hk]; simp only [Option.bind_some]
  rw [seg_energy h hl (by omega) (by omega) (by omega) hk]; simp only [Option.bind_some]
  rw [seg_energy h hl (by omega) (by omega) (by omega) hk]; simp only [Option.bind_some]
  rw [seg_energy h hl (by omega) (by omega) (by omega) hk]; simp only [Option.bind_some]
  rw [seg_energy h hl (by omega) (by omega) (by omega) hk]; simp only [Option.bind_some]
  rw [seg_energy h hl (by omega) (by omega) (by omega) hk]; simp only [Option.bind_some]
  rw [seg_energy h hl (by omega) (by omega) (by omega) hk]; simp only [Option.bind_some]
  rfl
theorem Energies_eq {l : List Int} (h : Lines l) {k : Nat} (hk : l.length < k ∨ edgesV (l.length : Int) = []) : band_Energies.f k l = some (if edgesV (l.length : Int) = [] then ([], 1) else (enL l (edgesV (l.length : Int)), 0)) := by
  unfold band_Energies.f
  by_cases he : edgesV (l.length : Int) = []
  · rw [if_pos he, if_pos he]
  · rw [if_neg he, if_neg he, enAll_eq h he (by rcases hk with hk | hk; exact hk; exact absurd hk he)]; rfl
/-- What the energies are: none below 0, together those of all lines. -/
theorem dE_facts {l : List Int} (h : Lines l) (he : edgesV (l.length : Int) ≠ []) :
    (0 ≤ dE l (edgesV l.length) 0 ∧ 0 ≤ dE l (edgesV l.length) 1 ∧ 0 ≤ dE l (edgesV l.length) 2 ∧ 0 ≤ dE l (edgesV l.length) 3 ∧ 0 ≤ dE l (edgesV l.length) 4 ∧ 0 ≤ dE l (edgesV l.length) 5 ∧ 0 ≤ dE l (edgesV l.length) 6 ∧ 0 ≤ dE l (edgesV l.length) 7) ∧
    dE l (edgesV l.length) 0 + dE l (edgesV l.length) 1 + dE l (edgesV l.length) 2 + dE l (edgesV l.length) 3 + dE l (edgesV l.length) 4 + dE l (edgesV l.length) 5 + dE l (edgesV l.length) 6 + dE l (edgesV l.length) 7 = enS l l.length ∧
    enS l l.length ≤ 8646911284551352320 ∧ 0 ≤ enS l l.length := by
  obtain ⟨_, e0, e8, _, n1, o1, o2, o3, o4, o5, o6, o7, o8⟩ := edges_ok _ he
  have g := enS_range h l.length (by omega)
  have m0 := enS_mono h (show (rd (edgesV l.length) 0).toNat ≤ (rd (edgesV l.length) 1).toNat by omega) (by omega)
  have m1 := enS_mono h (show (rd (edgesV l.length) 1).toNat ≤ (rd (edgesV l.length) 2).toNat by omega) (by omega)
  have m2 := enS_mono h (show (rd (edgesV l.length) 2).toNat ≤ (rd (edgesV l.length) 3).toNat by omega) (by omega)
  have m3 := enS_mono h (show (rd (edgesV l.length) 3).toNat ≤ (rd (edgesV l.length) 4).toNat by omega) (by omega)
  have m4 := enS_mono h (show (rd (edgesV l.length) 4).toNat ≤ (rd (edgesV l.length) 5).toNat by omega) (by omega)
  have m5 := enS_mono h (show (rd (edgesV l.length) 5).toNat ≤ (rd (edgesV l.length) 6).toNat by omega) (by omega)
  have m6 := enS_mono h (show (rd (edgesV l.length) 6).toNat ≤ (rd (edgesV l.length) 7).toNat by omega) (by omega)
  have m7 := enS_mono h (show (rd (edgesV l.length) 7).toNat ≤ (rd (edgesV l.length) 8).toNat by omega) (by omega)
  have z : enS l (rd (edgesV l.length) 0).toNat = 0 := by rw [e0]; rfl
  have t : enS l (rd (edgesV l.length) 8).toNat = enS l l.length := by rw [e8, Int.toNat_natCast]
  have gb : enS l l.length ≤ 8646911284551352320 := by omega
  unfold dE
  simp only [show (0 : Int) + 1 = 1 from rfl, show (1 : Int) + 1 = 2 from rfl, show (2 : Int) + 1 = 3 from rfl, show (3 : Int) + 1 = 4 from rfl, show (4 : Int) + 1 = 5 from rfl, show (5 : Int) + 1 = 6 from rfl, show (6 : Int) + 1 = 7 from rfl, show (7 : Int) + 1 = 8 from rfl]
  omega

/-! the width that is enough -/
/-- What lies beyond a width. -/
theorem May_eq (n : Int) : psalteryref09_May.f n = some (decide (edgesV n ≠ [])) := by
  unfold psalteryref09_May.f
  rcases edges_cases n with rfl | rfl | rfl | rfl | ⟨⟨h1, h2, h3, h4⟩, he⟩
  · rfl
  · rfl
  · rfl
  · rfl
  · rw [if_neg h1, if_neg h2, if_neg h3, he]
    have : (n == 120) = false := by simpa using h4
    rw [this]; rfl
theorem Edge_eq {n b : Int} (he : edgesV n ≠ []) (h0 : 0 ≤ b) (h1 : b ≤ 8) : psalteryref15_Edge.f n b = some (rd (edgesV n) b) := by
  have hb : b = 0 ∨ b = 1 ∨ b = 2 ∨ b = 3 ∨ b = 4 ∨ b = 5 ∨ b = 6 ∨ b = 7 ∨ b = 8 := by omega
  rcases edges_cases n with rfl | rfl | rfl | rfl | ⟨_, h⟩
  · rcases hb with rfl | rfl | rfl | rfl | rfl | rfl | rfl | rfl | rfl <;> rfl
  · rcases hb with rfl | rfl | rfl | rfl | rfl | rfl | rfl | rfl | rfl <;> rfl
  · rcases hb with rfl | rfl | rfl | rfl | rfl | rfl | rfl | rfl | rfl <;> rfl
  · rcases hb with rfl | rfl | rfl | rfl | rfl | rfl | rfl | rfl | rfl <;> rfl
  · exact absurd h he
def bandV (n i : Int) : Int := (psalteryref15_Band.f 20 n i).getD 0
def BandOk (n i : Int) : Prop := psalteryref15_Band.f 20 n i = some (bandV n i) ∧ 0 ≤ bandV n i ∧ bandV n i < 8 ∧ rd (edgesV n) (bandV n i) ≤ i ∧ i < rd (edgesV n) (bandV n i + 1) ∧
  (∀ b : Fin 8, (b.val : Int) < bandV n i → rd (edgesV n) ((b.val : Int) + 1) ≤ i) ∧ (∀ b : Fin 8, bandV n i < (b.val : Int) → i < rd (edgesV n) (b.val : Int)) ∧
  (∀ w : Fin 4, bandV n i ≥ 2 * (w.val : Int) + 2 ↔ i ≥ rd (edgesV n) (2 * (w.val : Int) + 2))
instance (n i : Int) : Decidable (BandOk n i) := by unfold BandOk; infer_instance
theorem band40 : ∀ i : Fin 40, BandOk 40 i.val := by decide +kernel
theorem band60 : ∀ i : Fin 60, BandOk 60 i.val := by decide +kernel
theorem band80 : ∀ i : Fin 80, BandOk 80 i.val := by decide +kernel
theorem band120 : ∀ i : Fin 120, BandOk 120 i.val := by decide +kernel
theorem band_ok {n i : Int} (he : edgesV n ≠ []) (h0 : 0 ≤ i) (h1 : i < n) : BandOk n i := by
  rcases edges_cases n with rfl | rfl | rfl | rfl | ⟨_, h⟩
  · have := band40 ⟨i.toNat, by omega⟩; rwa [show ((i.toNat : Nat) : Int) = i by omega] at this
  · have := band60 ⟨i.toNat, by omega⟩; rwa [show ((i.toNat : Nat) : Int) = i by omega] at this
  · have := band80 ⟨i.toNat, by omega⟩; rwa [show ((i.toNat : Nat) : Int) = i by omega] at this
  · have := band120 ⟨i.toNat, by omega⟩; rwa [show ((i.toNat : Nat) : Int) = i by omega] at this
  · exact absurd h he
theorem Band_eq {n i : Int} (he : edgesV n ≠ []) (h0 : 0 ≤ i) (h1 : i < n) {k : Nat} (hk : 20 ≤ k) : psalteryref15_Band.f k n i = some (bandV n i) :=
  at_rounds (g := fun k => psalteryref15_Band.f k n i) (fun k => psalteryref15_Band.mono n i k) hk (band_ok he h0 h1).1

theorem edge_step {n : Int} (he : edgesV n ≠ []) {b : Int} (h0 : 0 ≤ b) (h1 : b < 8) : 0 ≤ rd (edgesV n) b ∧ rd (edgesV n) b ≤ rd (edgesV n) (b + 1) ∧ rd (edgesV n) (b + 1) ≤ n := by
  obtain ⟨_, e0, e8, _, n1, o1, o2, o3, o4, o5, o6, o7, o8⟩ := edges_ok _ he
  have : b = 0 ∨ b = 1 ∨ b = 2 ∨ b = 3 ∨ b = 4 ∨ b = 5 ∨ b = 6 ∨ b = 7 := by omega
  rcases this with rfl | rfl | rfl | rfl | rfl | rfl | rfl | rfl
  · rw [show (0 : Int) + 1 = 1 from rfl]; omega
  · rw [show (1 : Int) + 1 = 2 from rfl]; omega
  · rw [show (2 : Int) + 1 = 3 from rfl]; omega
  · rw [show (3 : Int) + 1 = 4 from rfl]; omega
  · rw [show (4 : Int) + 1 = 5 from rfl]; omega
  · rw [show (5 : Int) + 1 = 6 from rfl]; omega
  · rw [show (6 : Int) + 1 = 7 from rfl]; omega
  · rw [show (7 : Int) + 1 = 8 from rfl]; omega
def cE (l es : List Int) (i : Nat) (b : Int) : Int := enS l (min i (rd es (b + 1)).toNat) - enS l (min i (rd es b).toNat)
theorem cE_step {l : List Int} (he : edgesV (l.length : Int) ≠ []) {i : Nat} (hi : i < l.length) {b : Int} (h0 : 0 ≤ b) (h1 : b < 8) :
    cE l (edgesV l.length) (i + 1) b = cE l (edgesV l.length) i b + (if b = bandV l.length i then lineE (rd l i) else 0) := by
  obtain ⟨_, b0, b8, lo, hi2, below, above, _⟩ := band_ok (n := l.length) (i := i) he (by omega) (by omega)
  obtain ⟨g0, g1, g2⟩ := edge_step he h0 h1
  unfold cE
  by_cases c : b = bandV l.length i
  · rw [if_pos c]
    subst c
    rw [show min (i + 1) (rd (edgesV l.length) (bandV l.length i + 1)).toNat = i + 1 by omega, show min i (rd (edgesV l.length) (bandV l.length i + 1)).toNat = i by omega, show min (i + 1) (rd (edgesV l.length) (bandV l.length i)).toNat = (rd (edgesV l.length) (bandV l.length i)).toNat by omega, show min i (rd (edgesV l.length) (bandV l.length i)).toNat = (rd (edgesV l.length) (bandV l.length i)).toNat by omega]
    simp only [enS]; omega
  · rw [if_neg c]
    rcases Int.lt_or_lt_of_ne c with c | c
    · have := below ⟨b.toNat, by omega⟩ (by show ((b.toNat : Nat) : Int) < _; omega)
      rw [show ((b.toNat : Nat) : Int) = b by omega] at this
      rw [show min (i + 1) (rd (edgesV l.length) (b + 1)).toNat = (rd (edgesV l.length) (b + 1)).toNat by omega, show min i (rd (edgesV l.length) (b + 1)).toNat = (rd (edgesV l.length) (b + 1)).toNat by omega, show min (i + 1) (rd (edgesV l.length) b).toNat = (rd (edgesV l.length) b).toNat by omega, show min i (rd (edgesV l.length) b).toNat = (rd (edgesV l.length) b).toNat by omega]
      omega
    · have := above ⟨b.toNat, by omega⟩ (by show _ < ((b.toNat : Nat) : Int); omega)
      rw [show ((b.toNat : Nat) : Int) = b by omega] at this
      rw [show min (i + 1) (rd (edgesV l.length) (b + 1)).toNat = i + 1 by omega, show min i (rd (edgesV l.length) (b + 1)).toNat = i by omega, show min (i + 1) (rd (edgesV l.length) b).toNat = i + 1 by omega, show min i (rd (edgesV l.length) b).toNat = i by omega]
      omega
theorem cE_range {l : List Int} (h : Lines l) (he : edgesV (l.length : Int) ≠ []) (i : Nat) {b : Int} (h0 : 0 ≤ b) (h1 : b < 8) : 0 ≤ cE l (edgesV l.length) i b ∧ cE l (edgesV l.length) i b ≤ 8646911284551352320 := by
  obtain ⟨g0, g1, g2⟩ := edge_step he h0 h1
  obtain ⟨_, _, _, _, n1, _⟩ := edges_ok _ he
  have m := enS_mono h (show min i (rd (edgesV l.length) b).toNat ≤ min i (rd (edgesV l.length) (b + 1)).toNat by omega) (by omega)
  have a := enS_range h (min i (rd (edgesV l.length) (b + 1)).toNat) (by omega)
  have c := enS_range h (min i (rd (edgesV l.length) b).toNat) (by omega)
  unfold cE
  omega
theorem rEn_l0 {l : List Int} (h : Lines l) (he : edgesV (l.length : Int) ≠ []) (d : Nat) : ∀ (k : Nat) (out : List Int) (i : Nat), i ≤ l.length → l.length - i = d → d + 20 < k → out.length = 8 → (∀ b : Int, 0 ≤ b → b < 8 → rd out b = cE l (edgesV l.length) i b) →
    psalteryref15_Energies.l0 k l out (i : Int) = some (enL l (edgesV l.length)) := by
  obtain ⟨_, _, _, _, n1, _⟩ := edges_ok _ he
  induction d with
  | zero =>
    intro k out i hi hd hk ho hv
    obtain ⟨k, rfl⟩ : ∃ m, k = m + 1 := ⟨k - 1, by omega⟩
    simp only [psalteryref15_Energies.l0]
    rw [if_neg (by omega)]
    congr 1
    refine ext_rd (by rw [ho]; rfl) fun b b0 b1 => ?_
    rw [hv b b0 (by omega), rd_enL _ _ b0 (by omega)]
    obtain ⟨g0, g1, g2⟩ := edge_step he b0 (show b < 8 by omega)
    unfold cE dE
    rw [show min i (rd (edgesV l.length) (b + 1)).toNat = (rd (edgesV l.length) (b + 1)).toNat by omega, show min i (rd (edgesV l.length) b).toNat = (rd (edgesV l.length) b).toNat by omega]
  | succ d ih =>
    intro k out i hi hd hk ho hv
    obtain ⟨k, rfl⟩ : ∃ m, k = m + 1 := ⟨k - 1, by omega⟩
    simp only [psalteryref15_Energies.l0]
    have s := h.at (i := i) (by omega) (by omega)
    have lr := lineE_range s.1 s.2
    obtain ⟨_, b0, b8, _⟩ := band_ok (n := l.length) (i := i) he (by omega) (by omega)
    have cr := cE_range h he i b0 b8
    have key : psalteryref15_Energies.l0 k l (out.set (bandV l.length i).toNat (cE l (edgesV l.length) i (bandV l.length i) + lineE (rd l i))) ((i + 1 : Nat) : Int) = some (enL l (edgesV l.length)) := by
      refine ih k _ (i + 1) (by omega) (by omega) (by omega) (by rw [List.length_set]; exact ho) fun b h0 h1 => ?_
      rw [rd_set b0 (by omega) h0, cE_step he (by omega) h0 h1]
      by_cases c : b = bandV l.length i
      · rw [if_pos c, if_pos c, c]
      · rw [if_neg c, if_neg c, hv b h0 h1]; omega
    rw [if_pos (by omega), if_pos (by omega), w64 (a := rd l i) (by omega) (by omega), Band_eq he (by omega) (by omega) (by omega)]
    simp only [Option.bind_some]
    by_cases c : rd l i < 0
    · have e : wrap64 ((wrap64 (Int.tdiv (wrap64 (-(rd l i))) 8)) * (wrap64 (Int.tdiv (wrap64 (-(rd l i))) 8))) = lineE (rd l i) := by
        rw [w64 (a := -(rd l i)) (by omega) (by omega), Int.tdiv_eq_ediv_of_nonneg (by omega), show -(rd l i) / 8 = max (rd l i) (-(rd l i)) / 8 by omega, w64 (a := max _ _ / 8) (by omega) (by omega)]
        exact w64 (by have := lr.1; unfold lineE at this; omega) (by have := lr.2.1; unfold lineE at this; omega)
      rw [if_pos c, if_pos b0, if_pos (by omega), e, hv _ b0 b8, wu64 (a := lineE _) (by omega) (by omega), wu64 (by omega) (by omega), w64 (by omega) (by omega)]
      exact key
    · have e : wrap64 ((wrap64 (Int.tdiv (rd l i) 8)) * (wrap64 (Int.tdiv (rd l i) 8))) = lineE (rd l i) := by
        rw [Int.tdiv_eq_ediv_of_nonneg (by omega), show rd l i / 8 = max (rd l i) (-(rd l i)) / 8 by omega, w64 (a := max _ _ / 8) (by omega) (by omega)]
        exact w64 (by have := lr.1; unfold lineE at this; omega) (by have := lr.2.1; unfold lineE at this; omega)
      rw [if_neg c, if_pos b0, if_pos (by omega), e, hv _ b0 b8, wu64 (a := lineE _) (by omega) (by omega), wu64 (by omega) (by omega), w64 (by omega) (by omega)]
      exact key
theorem rEnergies_eq {l : List Int} (h : Lines l) (he : edgesV (l.length : Int) ≠ []) {k : Nat} (hk : l.length + 20 < k) : psalteryref15_Energies.f k l = some (enL l (edgesV l.length)) := by
  unfold psalteryref15_Energies.f
  rw [if_pos (by decide)]
  refine rEn_l0 h he l.length k _ 0 (by omega) (by omega) hk (by simp) fun b b0 b1 => ?_
  rw [rd_replicate]; unfold cE; simp [enS]
theorem Same_l0 {a : List Int} (hl : a.length ≤ 1000000) (d : Nat) : ∀ (k : Nat) (i : Int), 0 ≤ i → i ≤ a.length → (a.length : Int) - i = d → d < k → psalteryref08_Same32.l0 k a a i = some true := by
  induction d with
  | zero =>
    intro k i i0 i1 hd hk
    obtain ⟨k, rfl⟩ : ∃ m, k = m + 1 := ⟨k - 1, by omega⟩
    simp only [psalteryref08_Same32.l0]
    rw [if_neg (by omega)]
  | succ d ih =>
    intro k i i0 i1 hd hk
    obtain ⟨k, rfl⟩ : ∃ m, k = m + 1 := ⟨k - 1, by omega⟩
    simp only [psalteryref08_Same32.l0]
    rw [if_pos (by omega), if_pos i0, if_pos (by omega), if_true, w64 (by omega) (by omega)]
    exact ih k (i + 1) (by omega) (by omega) (by omega) (by omega)
theorem Same_eq {a : List Int} (hl : a.length ≤ 1000000) {k : Nat} (hk : a.length < k) : psalteryref08_Same32.f k a a = some true := by
  unfold psalteryref08_Same32.f
  rw [if_pos rfl]
  exact Same_l0 hl a.length k 0 (by decide) (by omega) (by omega) hk
end Go.Proofs.Ytblehkoonajofaa.ShapeBand
