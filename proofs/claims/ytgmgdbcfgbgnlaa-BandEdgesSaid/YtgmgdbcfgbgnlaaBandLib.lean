/- Edges, energies, widths and what is kept: the functions of band and psalteryref15 as plain functions. -/
import Derived.Test.YtgmgdbcfgbgnlaaPBandx0
import Derived.Test.YtgmgdbcfgbgnlaaPBandx1
import Derived.Test.YtgmgdbcfgbgnlaaPBandx2
import Derived.Test.YtgmgdbcfgbgnlaaPBandx3
import Derived.Test.YtgmgdbcfgbgnlaaPBandx4
import Derived.Test.YtgmgdbcfgbgnlaaPBandx5
import Derived.Test.YtgmgdbcfgbgnlaaPBandx6
import Derived.Test.YtgmgdbcfgbgnlaaFill
namespace Go.Proofs.Ytgmgdbcfgbgnlaa.BandLib
open Go.RowKit Go.Proofs.Ytgmgdbcfgbgnlaa.PBand Go.Proofs.Ytgmgdbcfgbgnlaa.Num Go.Proofs.YtgmgdbcfgbgnlaaW.PrintWords Go.Proofs.YtgmgdbcfgbgnlaaW.PrintLast Go.Proofs.YtgmgdbcfgbgnlaaW.PrintMore
set_option linter.unusedVariables false
set_option linter.unusedSimpArgs false

def Lines (l : List Int) : Prop := ∀ x ∈ l, -2147483648 ≤ x ∧ x ≤ 2147483647
theorem Lines.of {l : List Int} (h : ∀ x ∈ l, (Lit.int .i32 x).wf = true) : Lines l := fun x hx => i32_of (h x hx)
theorem Lines.at {l : List Int} (h : Lines l) {i : Int} (h0 : 0 ≤ i) (h1 : i < l.length) : -2147483648 ≤ rd l i ∧ rd l i ≤ 2147483647 := rd_all h h0 h1
/-- The energy of a line. -/
def lineE (v : Int) : Int := (max v (-v) / 8) * (max v (-v) / 8)
theorem lineE_range {v : Int} (h1 : -2147483648 ≤ v) (h2 : v ≤ 2147483647) : 0 ≤ lineE v ∧ lineE v ≤ 72057594037927936 ∧ 0 ≤ max v (-v) / 8 ∧ max v (-v) / 8 ≤ 268435456 := by
  have a : 0 ≤ max v (-v) / 8 ∧ max v (-v) / 8 ≤ 268435456 := by omega
  have b := mul_abs (A := 268435456) (B := 268435456) (a := max v (-v) / 8) (b := max v (-v) / 8) (by omega) (by omega) (by omega) (by omega)
  have c : 0 ≤ lineE v := Int.mul_nonneg a.1 a.1
  unfold lineE at *
  omega
theorem lineE_zero : lineE 0 = 0 := by decide
def enS (l : List Int) : Nat → Int
  | 0 => 0
  | n + 1 => enS l n + lineE (rd l n)
theorem enS_range {l : List Int} (h : Lines l) : ∀ n : Nat, n ≤ l.length → 0 ≤ enS l n ∧ enS l n ≤ 72057594037927936 * n
  | 0, _ => by simp [enS]
  | n + 1, hn => by
    have a := enS_range h n (by omega)
    have s := h.at (i := n) (by omega) (by omega)
    have b := lineE_range s.1 s.2
    simp only [enS]
    omega
theorem enS_mono {l : List Int} (h : Lines l) {m n : Nat} (hmn : m ≤ n) (hn : n ≤ l.length) : enS l m ≤ enS l n := by
  induction n with
  | zero => have : m = 0 := by omega
            subst this; exact Int.le_refl _
  | succ n ih =>
    by_cases e : m = n + 1
    · subst e; exact Int.le_refl _
    · have := ih (by omega) (by omega)
      have s := h.at (i := n) (by omega) (by omega)
      have b := lineE_range s.1 s.2
      simp only [enS]
      omega
theorem mxe {v : Int} (h1 : -2147483648 ≤ v) (h2 : v ≤ 2147483647) : wrap64 (Int.tdiv (mx (wrap64 v) (wrap64 (-(wrap64 v)))) 8) = max v (-v) / 8 := by
  rw [w64 (a := v) (by omega) (by omega), w64 (a := -v) (by omega) (by omega)]
  have e : mx v (-v) = max v (-v) := by unfold mx; split <;> omega
  rw [e, Int.tdiv_eq_ediv_of_nonneg (by omega), w64 (by omega) (by omega)]
theorem energy_l0 {l : List Int} (h : Lines l) (hl : l.length ≤ 120) (d : Nat) : ∀ (k : Nat) (i : Nat), i ≤ l.length → l.length - i = d → d < k → band_energy.l0 k (enS l i) l (l.length : Int) (i : Int) = some (enS l l.length) := by
  induction d with
  | zero =>
    intro k i hi hd hk
    obtain ⟨k, rfl⟩ : ∃ m, k = m + 1 := ⟨k - 1, by omega⟩
    simp only [band_energy.l0]
    rw [if_neg (by omega), show i = l.length by omega]
  | succ d ih =>
    intro k i hi hd hk
    obtain ⟨k, rfl⟩ : ∃ m, k = m + 1 := ⟨k - 1, by omega⟩
    simp only [band_energy.l0]
    have s := h.at (i := i) (by omega) (by omega)
    have b := lineE_range s.1 s.2
    have a := enS_range h i (by omega)
    rw [if_pos (by omega), if_pos (by omega), if_pos (by omega), mxe s.1 s.2]
    have e : (max (rd l i) (-(rd l i)) / 8) * (max (rd l i) (-(rd l i)) / 8) = lineE (rd l i) := rfl
    rw [e, w64 (a := lineE _) (by omega) (by omega), wu64 (a := lineE _) (by omega) (by omega), wu64 (by omega) (by omega), w64 (by omega) (by omega)]
    exact ih k (i + 1) (by omega) (by omega) (by omega)
theorem energy_eq {l : List Int} (h : Lines l) (hl : l.length ≤ 120) {k : Nat} (hk : l.length < k) : band_energy.f k l = some (enS l l.length) := energy_l0 h hl l.length k 0 (by omega) (by omega) hk

/-! parts of a list -/
theorem seg_len {l : List Int} {a b : Int} (h0 : 0 ≤ a) (h1 : a ≤ b) (h2 : b ≤ l.length) : ((seg l a b).length : Int) = b - a := by
  unfold seg; rw [List.length_drop, List.length_take]; omega
theorem rd_seg {l : List Int} {a b j : Int} (h0 : 0 ≤ a) (h1 : a ≤ b) (h2 : b ≤ l.length) (j0 : 0 ≤ j) (j1 : j < b - a) : rd (seg l a b) j = rd l (a + j) := by
  unfold seg rd
  rw [List.getD_eq_getElem?_getD, List.getD_eq_getElem?_getD, List.getElem?_drop, List.getElem?_take_of_lt (by omega), show a.toNat + j.toNat = (a + j).toNat by omega]
theorem Lines.seg {l : List Int} (h : Lines l) (a b : Int) : Lines (seg l a b) := fun x hx => by
  unfold PBand.seg at hx
  exact h x (List.mem_of_mem_take (List.mem_of_mem_drop hx))
theorem enS_seg {l : List Int} {a b : Int} (h0 : 0 ≤ a) (h1 : a ≤ b) (h2 : b ≤ l.length) : ∀ n : Nat, (n : Int) ≤ b - a → enS (seg l a b) n = enS l (a.toNat + n) - enS l a.toNat
  | 0, _ => by simp [enS]
  | n + 1, hn => by
    have ih := enS_seg h0 h1 h2 n (by omega)
    show enS (seg l a b) n + lineE (rd (seg l a b) n) = enS l (a.toNat + n) + lineE (rd l ((a.toNat + n : Nat) : Int)) - enS l a.toNat
    rw [ih, rd_seg h0 h1 h2 (by omega) (by omega), show a + (n : Int) = ((a.toNat + n : Nat) : Int) by omega]
    omega
theorem seg_energy {l : List Int} (h : Lines l) (hl : l.length ≤ 120) {a b : Int} (h0 : 0 ≤ a) (h1 : a ≤ b) (h2 : b ≤ l.length) {k : Nat} (hk : l.length < k) : band_energy.f k (seg l a b) = some (enS l b.toNat - enS l a.toNat) := by
  have sl := seg_len h0 h1 h2
  rw [energy_eq (h.seg a b) (by omega) (by omega), enS_seg h0 h1 h2 _ (by omega), show a.toNat + (seg l a b).length = b.toNat by omega]

/-! the edges -/
theorem edges_ok : ∀ n : Int, edgesV n ≠ [] → (edgesV n).length = 9 ∧ rd (edgesV n) 0 = 0 ∧ rd (edgesV n) 8 = n ∧ 0 < n ∧ n ≤ 120 ∧
    (0 ≤ rd (edgesV n) 1 ∧ rd (edgesV n) 1 ≤ rd (edgesV n) 2 ∧ rd (edgesV n) 2 ≤ rd (edgesV n) 3 ∧ rd (edgesV n) 3 ≤ rd (edgesV n) 4 ∧ rd (edgesV n) 4 ≤ rd (edgesV n) 5 ∧ rd (edgesV n) 5 ≤ rd (edgesV n) 6 ∧ rd (edgesV n) 6 ≤ rd (edgesV n) 7 ∧ rd (edgesV n) 7 ≤ n) := by
  intro n hn
  rcases edges_cases n with rfl | rfl | rfl | rfl | ⟨_, he⟩
  · decide +kernel
  · decide +kernel
  · decide +kernel
  · decide +kernel
  · exact absurd he hn
/-- The energies of the bands. -/
def dE (l es : List Int) (b : Int) : Int := enS l (rd es (b + 1)).toNat - enS l (rd es b).toNat
def enL (l es : List Int) : List Int := [dE l es 0, dE l es 1, dE l es 2, dE l es 3, dE l es 4, dE l es 5, dE l es 6, dE l es 7]
theorem rd_enL (l es : List Int) {b : Int} (h0 : 0 ≤ b) (h1 : b < 8) : rd (enL l es) b = dE l es b := by
  have : b = 0 ∨ b = 1 ∨ b = 2 ∨ b = 3 ∨ b = 4 ∨ b = 5 ∨ b = 6 ∨ b = 7 := by omega
  rcases this with rfl | rfl | rfl | rfl | rfl | rfl | rfl | rfl <;> rfl
theorem enAll_eq {l : List Int} (h : Lines l) (he : edgesV (l.length : Int) ≠ []) {k : Nat} (hk : l.length < k) : enAll (band_energy.f k) l (edgesV (l.length : Int)) = some (enL l (edgesV (l.length : Int))) := by
  obtain ⟨_, e0, e8, _, n1, o1, o2, o3, o4, o5, o6, o7, o8⟩ := edges_ok _ he
  have hl : l.length ≤ 120 := by omega
  unfold enAll
  rw [seg_energy h hl (by omega) (by omega) (by omega) hk]; simp only [Option.bind_some]
  rw [seg_energy h hl (by omega) (by omega) (by omega) hk]; simp only [Option.bind_some]
  rw [seg_energy h hl (by omega) (by omega) (by omega) hk]; simp only [Option.bind_some]
  rw [seg_energy h hl (by omega) (by omega) (by omega) hk]; simp only [Option.bind_some]
  rw [seg_energy h hl (by omega) (by omega) (by omega) hk]; simp only [Option.bind_some]
  rw [seg_energy h hl (by omega) (by omega) (by omega) hk]; simp only [Option.bind_some]
  rw [seg_energy h hl (by omega) (by omega) (by omega) hk]; simp only [Option.bind_some]
  rw [seg_energy h hl (by omega) (by omega) (by omega) hk]; simp only [Option.bind_some]
  rfl
theorem Energies_eq {l : List Int} (h : Lines l) {k : Nat} (hk : l.length < k ∨ edgesV (l.length : Int) = []) : band_Energies.f k l = some (if edgesV (l.length : Int) = [] then ([], 1) else (enL l (edgesV (l.length : Int)), 0)) := by
  unfold band_Energies.f
  by_cases he : edgesV (l.length : Int) = []
  · rw [if_pos he, if_pos he]
  · rw [if_neg he, if_neg he, enAll_eq h he (by rcases hk with hk | hk; exact hk; exact absurd hk he)]; rfl
/-- What the energies are: none below 0, together those of all lines. -/
theorem dE_facts {l : List Int} (h : Lines l) (he : edgesV (l.length : Int) ≠ []) :
    (0 ≤ dE l (edgesV l.length) 0 ∧ 0 ≤ dE l (edgesV l.length) 1 ∧ 0 ≤ dE l (edgesV l.length) 2 ∧ 0 ≤ dE l (edgesV l.length) 3 ∧ 0 ≤ dE l (edgesV l.length) 4 ∧ 0 ≤ dE l (edgesV l.length) 5 ∧ 0 ≤ dE l (edgesV l.length) 6 ∧ 0 ≤ dE l (edgesV l.length) 7) ∧
    dE l (edgesV l.length) 0 + dE l (edgesV l.length) 1 + dE l (edgesV l.length) 2 + dE l (edgesV l.length) 3 + dE l (edgesV l.length) 4 + dE l (edgesV l.length) 5 + dE l (edgesV l.length) 6 + dE l (edgesV l.length) 7 = enS l l.length ∧
    enS l l.length ≤ 8646911284551352320 ∧ 0 ≤ enS l l.length := by
  obtain ⟨_, e0, e8, _, n1, o1, o2, o3, o4, o5, o6, o7, o8⟩ := edges_ok _ he
  have g := enS_range h l.length (by omega)
  have m0 := enS_mono h (show (rd (edgesV l.length) 0).toNat ≤ (rd (edgesV l.length) 1).toNat by omega) (by omega)
  have m1 := enS_mono h (show (rd (edgesV l.length) 1).toNat ≤ (rd (edgesV l.length) 2).toNat by omega) (by omega)
  have m2 := enS_mono h (show (rd (edgesV l.length) 2).toNat ≤ (rd (edgesV l.length) 3).toNat by omega) (by omega)
  have m3 := enS_mono h (show (rd (edgesV l.length) 3).toNat ≤ (rd (edgesV l.length) 4).toNat by omega) (by omega)
  have m4 := enS_mono h (show (rd (edgesV l.length) 4).toNat ≤ (rd (edgesV l.length) 5).toNat by omega) (by omega)
  have m5 := enS_mono h (show (rd (edgesV l.length) 5).toNat ≤ (rd (edgesV l.length) 6).toNat by omega) (by omega)
  have m6 := enS_mono h (show (rd (edgesV l.length) 6).toNat ≤ (rd (edgesV l.length) 7).toNat by omega) (by omega)
  have m7 := enS_mono h (show (rd (edgesV l.length) 7).toNat ≤ (rd (edgesV l.length) 8).toNat by omega) (by omega)
  have z : enS l (rd (edgesV l.length) 0).toNat = 0 := by rw [e0]; rfl
  have t : enS l (rd (edgesV l.length) 8).toNat = enS l l.length := by rw [e8, Int.toNat_natCast]
  have gb : enS l l.length ≤ 8646911284551352320 := by omega
  unfold dE
  simp only [show (0 : Int) + 1 = 1 from rfl, show (1 : Int) + 1 = 2 from rfl, show (2 : Int) + 1 = 3 from rfl, show (3 : Int) + 1 = 4 from rfl, show (4 : Int) + 1 = 5 from rfl, show (5 : Int) + 1 = 6 from rfl, show (6 : Int) + 1 = 7 from rfl, show (7 : Int) + 1 = 8 from rfl]
  omega

/-! the width that is enough -/
/-- What lies beyond a width. -/
def beyond (l : List Int) (w : Int) : Int := enS l l.length - enS l (rd (edgesV l.length) (2 * w + 2)).toNat
def widthV (l : List Int) : Int := if beyond l 2 > enS l l.length / 4096 then 3 else if beyond l 1 > enS l l.length / 4096 then 2 else if beyond l 0 > enS l l.length / 4096 then 1 else 0
theorem beyond_eq {l : List Int} (h : Lines l) (he : edgesV (l.length : Int) ≠ []) :
    beyond l 2 = dE l (edgesV l.length) 6 + dE l (edgesV l.length) 7 ∧ beyond l 1 = dE l (edgesV l.length) 4 + dE l (edgesV l.length) 5 + dE l (edgesV l.length) 6 + dE l (edgesV l.length) 7 ∧ beyond l 0 = dE l (edgesV l.length) 2 + dE l (edgesV l.length) 3 + dE l (edgesV l.length) 4 + dE l (edgesV l.length) 5 + dE l (edgesV l.length) 6 + dE l (edgesV l.length) 7 ∧ beyond l 3 = 0 := by
  obtain ⟨_, e0, e8, _⟩ := edges_ok _ he
  have t : enS l (rd (edgesV l.length) 8).toNat = enS l l.length := by rw [e8, Int.toNat_natCast]
  unfold beyond dE
  simp only [show (0 : Int) + 1 = 1 from rfl, show (1 : Int) + 1 = 2 from rfl, show (2 : Int) + 1 = 3 from rfl, show (3 : Int) + 1 = 4 from rfl, show (4 : Int) + 1 = 5 from rfl, show (5 : Int) + 1 = 6 from rfl, show (6 : Int) + 1 = 7 from rfl, show (7 : Int) + 1 = 8 from rfl, show (2 : Int) * 2 + 2 = 6 from rfl, show (2 : Int) * 1 + 2 = 4 from rfl, show (2 : Int) * 0 + 2 = 2 from rfl, show (2 : Int) * 3 + 2 = 8 from rfl]
  omega
theorem Width_l0 {e0 e1 e2 e3 e4 e5 e6 e7 all : Int} (p : 0 ≤ e0 ∧ 0 ≤ e1 ∧ 0 ≤ e2 ∧ 0 ≤ e3 ∧ 0 ≤ e4 ∧ 0 ≤ e5 ∧ 0 ≤ e6 ∧ 0 ≤ e7) (s : e0 + e1 + e2 + e3 + e4 + e5 + e6 + e7 ≤ 8646911284551352320) (k : Nat) :
    band_Width.l0 (k + 4) [e0, e1, e2, e3, e4, e5, e6, e7] all 0 3 = some (if e6 + e7 > all then 3 else if e4 + e5 + e6 + e7 > all then 2 else if e2 + e3 + e4 + e5 + e6 + e7 > all then 1 else 0, 0) := by
  have r6 : rd [e0, e1, e2, e3, e4, e5, e6, e7] 6 = e6 := rfl
  have r7 : rd [e0, e1, e2, e3, e4, e5, e6, e7] 7 = e7 := rfl
  have r4 : rd [e0, e1, e2, e3, e4, e5, e6, e7] 4 = e4 := rfl
  have r5 : rd [e0, e1, e2, e3, e4, e5, e6, e7] 5 = e5 := rfl
  have r2 : rd [e0, e1, e2, e3, e4, e5, e6, e7] 2 = e2 := rfl
  have r3 : rd [e0, e1, e2, e3, e4, e5, e6, e7] 3 = e3 := rfl
  have a6 : wrap64 (2 * 3) = 6 := by decide +kernel
  have a7 : wrap64 (6 + 1) = 7 := by decide +kernel
  have a4 : wrap64 (2 * 2) = 4 := by decide +kernel
  have a5 : wrap64 (4 + 1) = 5 := by decide +kernel
  have a2 : wrap64 (2 * 1) = 2 := by decide +kernel
  have a3 : wrap64 (2 + 1) = 3 := by decide +kernel
  have b2 : wrap64 (3 - 1) = 2 := by decide +kernel
  have b1 : wrap64 (2 - 1) = 1 := by decide +kernel
  have b0 : wrap64 (1 - 1) = 0 := by decide +kernel
  have hl : (([e0, e1, e2, e3, e4, e5, e6, e7] : List Int).length : Int) = 8 := rfl
  obtain ⟨k1, hk1⟩ : ∃ k1, k1 = k + 3 := ⟨_, rfl⟩
  rw [show k + 4 = k1 + 1 by omega]
  simp only [band_Width.l0]
  rw [if_pos (by decide), a6, a7, r6, r7, hl, if_pos (by decide), if_pos (by decide), if_pos (by decide), if_pos (by decide), wu64 (a := e6 + e7) (by omega) (by omega), wu64 (a := 0 + (e6 + e7)) (by omega) (by omega), Int.zero_add, b2]
  by_cases c1 : e6 + e7 > all
  · rw [if_pos c1, if_pos c1]
  · rw [if_neg c1, if_neg c1]
    obtain ⟨k2, hk2⟩ : ∃ k2, k2 = k + 2 := ⟨_, rfl⟩
    rw [show k1 = k2 + 1 by omega]
    simp only [band_Width.l0]
    rw [if_pos (by decide), a4, a5, r4, r5, hl, if_pos (by decide), if_pos (by decide), if_pos (by decide), if_pos (by decide), wu64 (a := e4 + e5) (by omega) (by omega), wu64 (a := e6 + e7 + (e4 + e5)) (by omega) (by omega), b1, show e6 + e7 + (e4 + e5) = e4 + e5 + e6 + e7 by omega]
    by_cases c2 : e4 + e5 + e6 + e7 > all
    · rw [if_pos c2, if_pos c2]
    · rw [if_neg c2, if_neg c2]
      obtain ⟨k3, hk3⟩ : ∃ k3, k3 = k + 1 := ⟨_, rfl⟩
      rw [show k2 = k3 + 1 by omega]
      simp only [band_Width.l0]
      rw [if_pos (by decide), a2, a3, r2, r3, hl, if_pos (by decide), if_pos (by decide), if_pos (by decide), if_pos (by decide), wu64 (a := e2 + e3) (by omega) (by omega), wu64 (a := e4 + e5 + e6 + e7 + (e2 + e3)) (by omega) (by omega), b0, show e4 + e5 + e6 + e7 + (e2 + e3) = e2 + e3 + e4 + e5 + e6 + e7 by omega]
      by_cases c3 : e2 + e3 + e4 + e5 + e6 + e7 > all
      · rw [if_pos c3, if_pos c3]
      · rw [if_neg c3, if_neg c3]
        rw [hk3]
        simp only [band_Width.l0]
        rw [if_neg (by decide)]
theorem Width_eq {l : List Int} (h : Lines l) {k : Nat} (hk4 : 4 ≤ k) (hk : l.length < k ∨ edgesV (l.length : Int) = []) : band_Width.f k l = some (if edgesV (l.length : Int) = [] then (0, 1) else (widthV l, 0)) := by
  unfold band_Width.f
  rw [Energies_eq h hk]; simp only [Option.bind_some]
  by_cases he : edgesV (l.length : Int) = []
  · rw [if_pos he, if_pos he]; dsimp only; rw [if_neg (by decide)]
  · have hk' : l.length < k := by rcases hk with hk | hk; exact hk; exact absurd hk he
    obtain ⟨_, e0, e8, n0, n1, _⟩ := edges_ok _ he
    obtain ⟨p, s, sb, s0⟩ := dE_facts h he
    obtain ⟨b2, b1, b0, _⟩ := beyond_eq h he
    rw [if_neg he, if_neg he]; dsimp only
    rw [if_pos rfl, energy_eq h (by omega) hk']; simp only [Option.bind_some]
    rw [Int.tdiv_eq_ediv_of_nonneg s0, wu64 (by omega) (by omega)]
    obtain ⟨k, rfl⟩ : ∃ m, k = m + 4 := ⟨k - 4, by omega⟩
    unfold enL widthV
    rw [Width_l0 p (by omega) k, b2, b1, b0]
def sum8 (l : List Int) : Int := enS l l.length
theorem sum_l0 {l : List Int} (h : Lines l) (he : edgesV (l.length : Int) ≠ []) (k : Nat) : psalterylaw15_sum.l0 (k + 9) (enL l (edgesV l.length)) 0 0 = some (enS l l.length) := by
  obtain ⟨p, s, sb, s0⟩ := dE_facts h he
  have st : ∀ (m : Nat) (a i : Int), 0 ≤ i → i < 8 → 0 ≤ a → a + dE l (edgesV l.length) i ≤ 8646911284551352320 → 0 ≤ dE l (edgesV l.length) i → psalterylaw15_sum.l0 (m + 1) (enL l (edgesV l.length)) a i = psalterylaw15_sum.l0 m (enL l (edgesV l.length)) (a + dE l (edgesV l.length) i) (i + 1) := by
    intro m a i i0 i1 a0 a1 a2
    simp only [psalterylaw15_sum.l0]
    rw [if_pos (by simpa [enL] using i1), if_pos i0, rd_enL _ _ i0 i1, wu64 (by omega) (by omega), w64 (by omega) (by omega)]
  rw [st (k + 8) _ _ (by decide) (by decide) (by omega) (by omega) (by omega)]
  rw [show (0 : Int) + 1 = 1 from rfl, st (k + 7) _ _ (by decide) (by decide) (by omega) (by omega) (by omega)]
  rw [show (1 : Int) + 1 = 2 from rfl, st (k + 6) _ _ (by decide) (by decide) (by omega) (by omega) (by omega)]
  rw [show (2 : Int) + 1 = 3 from rfl, st (k + 5) _ _ (by decide) (by decide) (by omega) (by omega) (by omega)]
  rw [show (3 : Int) + 1 = 4 from rfl, st (k + 4) _ _ (by decide) (by decide) (by omega) (by omega) (by omega)]
  rw [show (4 : Int) + 1 = 5 from rfl, st (k + 3) _ _ (by decide) (by decide) (by omega) (by omega) (by omega)]
  rw [show (5 : Int) + 1 = 6 from rfl, st (k + 2) _ _ (by decide) (by decide) (by omega) (by omega) (by omega)]
  rw [show (6 : Int) + 1 = 7 from rfl, st (k + 1) _ _ (by decide) (by decide) (by omega) (by omega) (by omega)]
  simp only [psalterylaw15_sum.l0]
  rw [if_neg (by simp [enL])]
  congr 1
  omega
theorem sum_eq {l : List Int} (h : Lines l) (he : edgesV (l.length : Int) ≠ []) {k : Nat} (hk9 : 9 ≤ k) (hk : l.length < k) : psalterylaw15_sum.f k l = some (enS l l.length) := by
  unfold psalterylaw15_sum.f
  rw [Energies_eq h (.inl hk), if_neg he]; simp only [Option.bind_some]
  obtain ⟨k, rfl⟩ : ∃ m, k = m + 9 := ⟨k - 9, by omega⟩
  exact sum_l0 h he k

/-! what is kept -/
def kept (n w : Int) : Int := rd (edgesV n) (2 * w + 2)
def narrow (l : List Int) (m : Int) : List Int := l.take m.toNat ++ List.replicate (l.length - m.toNat) 0
theorem narrow_len {l : List Int} {m : Int} (h0 : 0 ≤ m) (h1 : m ≤ l.length) : (narrow l m).length = l.length := by unfold narrow; simp; omega
theorem rd_narrow {l : List Int} {m j : Int} (h0 : 0 ≤ m) (h1 : m ≤ l.length) (j0 : 0 ≤ j) : rd (narrow l m) j = if j < m then rd l j else 0 := by
  unfold narrow rd
  rw [List.getD_eq_getElem?_getD, List.getD_eq_getElem?_getD]
  by_cases c : j < m
  · rw [if_pos c, List.getElem?_append_left (by simp; omega), List.getElem?_take_of_lt (by omega)]
  · rw [if_neg c, List.getElem?_append_right (by simp; omega), List.getElem?_replicate]
    split <;> rfl
theorem Lines.narrow {l : List Int} (h : Lines l) (m : Int) : Lines (narrow l m) := fun x hx => by
  unfold BandLib.narrow at hx
  rcases List.mem_append.1 hx with hx | hx
  · exact h x (List.mem_of_mem_take hx)
  · have := List.eq_of_mem_replicate hx; omega
theorem enS_narrow {l : List Int} {m : Int} (h0 : 0 ≤ m) (h1 : m ≤ l.length) : ∀ n : Nat, enS (narrow l m) n = enS l (min n m.toNat)
  | 0 => by simp [enS]
  | n + 1 => by
    have ih := enS_narrow h0 h1 n
    show enS (narrow l m) n + lineE (rd (narrow l m) n) = _
    rw [ih, rd_narrow h0 h1 (by omega)]
    by_cases c : (n : Int) < m
    · rw [if_pos c, show min n m.toNat = n by omega, show min (n + 1) m.toNat = n + 1 by omega]; rfl
    · rw [if_neg c, lineE_zero, show min n m.toNat = min (n + 1) m.toNat by omega]; omega
theorem kept_facts {n w : Int} (he : edgesV n ≠ []) (h0 : 0 ≤ w) (h1 : w ≤ 3) : 0 ≤ kept n w ∧ kept n w ≤ n := by
  obtain ⟨g1, g2, g⟩ := edge_ends n he
  have := g w h0 h1
  exact ⟨this.1, this.2.1⟩
theorem Narrow_eq (l : List Int) (w : Int) : band_Narrow.f l w = some (if edgesV (l.length : Int) = [] ∨ w < 0 ∨ w > 3 then ([], 1) else (narrow l (kept l.length w), 0)) := by
  unfold band_Narrow.f
  split
  · rfl
  · rfl
theorem Kept_eq (n w : Int) : band_Kept.f n w = some (if edgesV n = [] ∨ w < 0 ∨ w > 3 then (0, 1) else (kept n w, 0)) := by
  unfold band_Kept.f
  split <;> rfl
theorem widthV_range (l : List Int) : 0 ≤ widthV l ∧ widthV l ≤ 3 := by unfold widthV; (repeat' split) <;> omega
theorem narrow_narrow {l : List Int} {m : Int} (h0 : 0 ≤ m) (h1 : m ≤ l.length) : narrow (narrow l m) m = narrow l m := by
  have e := narrow_len h0 h1
  refine ext_rd (by rw [narrow_len h0 (by omega)]) fun i i0 i1 => ?_
  rw [rd_narrow h0 (by omega) i0, rd_narrow h0 h1 i0]
  split <;> rfl
theorem alive_eq {k : Nat} (hk : 50 ≤ k) : psalterylaw15_alive.f k = some true := by
  unfold psalterylaw15_alive.f
  have hL : Lines (List.replicate 40 0) := fun x hx => by have := List.eq_of_mem_replicate hx; omega
  rw [if_pos (by decide), Width_eq hL (by omega) (.inl (by simp; omega))]; simp only [Option.bind_some]
  have e1 : edgesV ((List.replicate 40 (0 : Int)).length : Int) ≠ [] := by decide
  have e2 : widthV (List.replicate 40 0) = 0 := by decide +kernel
  rw [if_neg e1, e2]
  rfl

/-! the reference -/
theorem May_eq (n : Int) : psalteryref09_May.f n = some (decide (edgesV n ≠ [])) := by
  unfold psalteryref09_May.f
  rcases edges_cases n with rfl | rfl | rfl | rfl | ⟨⟨h1, h2, h3, h4⟩, he⟩
  · rfl
  · rfl
  · rfl
  · rfl
  · rw [if_neg h1, if_neg h2, if_neg h3, he]
    have : (n == 120) = false := by simpa using h4
    rw [this]; rfl
theorem Edge_eq {n b : Int} (he : edgesV n ≠ []) (h0 : 0 ≤ b) (h1 : b ≤ 8) : psalteryref15_Edge.f n b = some (rd (edgesV n) b) := by
  have hb : b = 0 ∨ b = 1 ∨ b = 2 ∨ b = 3 ∨ b = 4 ∨ b = 5 ∨ b = 6 ∨ b = 7 ∨ b = 8 := by omega
  rcases edges_cases n with rfl | rfl | rfl | rfl | ⟨_, h⟩
  · rcases hb with rfl | rfl | rfl | rfl | rfl | rfl | rfl | rfl | rfl <;> rfl
  · rcases hb with rfl | rfl | rfl | rfl | rfl | rfl | rfl | rfl | rfl <;> rfl
  · rcases hb with rfl | rfl | rfl | rfl | rfl | rfl | rfl | rfl | rfl <;> rfl
  · rcases hb with rfl | rfl | rfl | rfl | rfl | rfl | rfl | rfl | rfl <;> rfl
  · exact absurd h he
def bandV (n i : Int) : Int := (psalteryref15_Band.f 20 n i).getD 0
def BandOk (n i : Int) : Prop := psalteryref15_Band.f 20 n i = some (bandV n i) ∧ 0 ≤ bandV n i ∧ bandV n i < 8 ∧ rd (edgesV n) (bandV n i) ≤ i ∧ i < rd (edgesV n) (bandV n i + 1) ∧
  (∀ b : Fin 8, (b.val : Int) < bandV n i → rd (edgesV n) ((b.val : Int) + 1) ≤ i) ∧ (∀ b : Fin 8, bandV n i < (b.val : Int) → i < rd (edgesV n) (b.val : Int)) ∧
  (∀ w : Fin 4, bandV n i ≥ 2 * (w.val : Int) + 2 ↔ i ≥ rd (edgesV n) (2 * (w.val : Int) + 2))
instance (n i : Int) : Decidable (BandOk n i) := by unfold BandOk; infer_instance
theorem band40 : ∀ i : Fin 40, BandOk 40 i.val := by decide +kernel
theorem band60 : ∀ i : Fin 60, BandOk 60 i.val := by decide +kernel
theorem band80 : ∀ i : Fin 80, BandOk 80 i.val := by decide +kernel
theorem band120 : ∀ i : Fin 120, BandOk 120 i.val := by decide +kernel
theorem band_ok {n i : Int} (he : edgesV n ≠ []) (h0 : 0 ≤ i) (h1 : i < n) : BandOk n i := by
  rcases edges_cases n with rfl | rfl | rfl | rfl | ⟨_, h⟩
  · have := band40 ⟨i.toNat, by omega⟩; rwa [show ((i.toNat : Nat) : Int) = i by omega] at this
  · have := band60 ⟨i.toNat, by omega⟩; rwa [show ((i.toNat : Nat) : Int) = i by omega] at this
  · have := band80 ⟨i.toNat, by omega⟩; rwa [show ((i.toNat : Nat) : Int) = i by omega] at this
  · have := band120 ⟨i.toNat, by omega⟩; rwa [show ((i.toNat : Nat) : Int) = i by omega] at this
  · exact absurd h he
theorem Band_eq {n i : Int} (he : edgesV n ≠ []) (h0 : 0 ≤ i) (h1 : i < n) {k : Nat} (hk : 20 ≤ k) : psalteryref15_Band.f k n i = some (bandV n i) :=
  at_rounds (g := fun k => psalteryref15_Band.f k n i) (fun k => psalteryref15_Band.mono n i k) hk (band_ok he h0 h1).1
end Go.Proofs.Ytgmgdbcfgbgnlaa.BandLib
