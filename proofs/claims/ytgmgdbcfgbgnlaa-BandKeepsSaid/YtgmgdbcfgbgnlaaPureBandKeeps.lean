/- The plain statement of the law BandKeeps: the lines that a width keeps stay, and have their energies, and the others have none. No condition. -/
import Derived.Test.YtgmgdbcfgbgnlaaBandLib
namespace Go.Proofs.Ytgmgdbcfgbgnlaa.Pure
open Go.RowKit Go.Proofs.Ytgmgdbcfgbgnlaa.PBand Go.Proofs.Ytgmgdbcfgbgnlaa.Num Go.Proofs.Ytgmgdbcfgbgnlaa.BandLib Go.Proofs.YtgmgdbcfgbgnlaaW.PrintWords Go.Proofs.YtgmgdbcfgbgnlaaW.PrintLast Go.Proofs.YtgmgdbcfgbgnlaaW.PrintMore
set_option linter.unusedVariables false
theorem SameK_l0 {a : List Int} (hl : a.length ≤ 1000000) (d : Nat) : ∀ (k : Nat) (i : Int), 0 ≤ i → i ≤ a.length → (a.length : Int) - i = d → d < k → psalteryref08_Same32.l0 k a a i = some true := by
  induction d with
  | zero =>
    intro k i i0 i1 hd hk
    obtain ⟨k, rfl⟩ : ∃ m, k = m + 1 := ⟨k - 1, by omega⟩
    simp only [psalteryref08_Same32.l0]
    rw [if_neg (by omega)]
  | succ d ih =>
    intro k i i0 i1 hd hk
    obtain ⟨k, rfl⟩ : ∃ m, k = m + 1 := ⟨k - 1, by omega⟩
    simp only [psalteryref08_Same32.l0]
    rw [if_pos (by omega), if_pos i0, if_pos (by omega), if_true, w64 (by omega) (by omega)]
    exact ih k (i + 1) (by omega) (by omega) (by omega) (by omega)
theorem edgeK_step {n : Int} (he : edgesV n ≠ []) {b : Int} (h0 : 0 ≤ b) (h1 : b < 8) : 0 ≤ rd (edgesV n) b ∧ rd (edgesV n) b ≤ rd (edgesV n) (b + 1) ∧ rd (edgesV n) (b + 1) ≤ n := by
  obtain ⟨_, e0, e8, _, n1, o1, o2, o3, o4, o5, o6, o7, o8⟩ := edges_ok _ he
  have : b = 0 ∨ b = 1 ∨ b = 2 ∨ b = 3 ∨ b = 4 ∨ b = 5 ∨ b = 6 ∨ b = 7 := by omega
  rcases this with rfl | rfl | rfl | rfl | rfl | rfl | rfl | rfl
  · rw [show (0 : Int) + 1 = 1 from rfl]; omega
  · rw [show (1 : Int) + 1 = 2 from rfl]; omega
  · rw [show (2 : Int) + 1 = 3 from rfl]; omega
  · rw [show (3 : Int) + 1 = 4 from rfl]; omega
  · rw [show (4 : Int) + 1 = 5 from rfl]; omega
  · rw [show (5 : Int) + 1 = 6 from rfl]; omega
  · rw [show (6 : Int) + 1 = 7 from rfl]; omega
  · rw [show (7 : Int) + 1 = 8 from rfl]; omega
theorem edge_mono {n : Int} (he : edgesV n ≠ []) (d : Nat) : ∀ {a : Int}, 0 ≤ a → a + d ≤ 8 → rd (edgesV n) a ≤ rd (edgesV n) (a + d) := by
  induction d with
  | zero => intro a h0 h1; simp
  | succ d ih =>
    intro a h0 h1
    have g := edgeK_step he h0 (by omega)
    have := @ih (a + 1) (by omega) (by omega)
    rw [show a + ((d + 1 : Nat) : Int) = a + 1 + d by omega]
    omega
theorem keeps_l0 {l : List Int} (hl : l.length ≤ 120) {m w : Int} (m0 : 0 ≤ m) (m1 : m ≤ l.length) (x9 x11 : List Int) (d : Nat) : ∀ (k : Nat) (i : Int), 0 ≤ i → (l.length : Int) - i = d →
    psalterylaw15_BandKeeps.l0 (k + d + 1) l w (narrow l m) m x9 x11 i = psalterylaw15_BandKeeps.l1 k w (narrow l m) x9 x11 0 := by
  have nl := narrow_len m0 m1
  induction d with
  | zero =>
    intro k i i0 hd
    simp only [psalterylaw15_BandKeeps.l0]
    rw [if_neg (by omega)]
  | succ d ih =>
    intro k i i0 hd
    obtain ⟨q, hq⟩ : ∃ q, q = k + d + 1 := ⟨_, rfl⟩
    rw [show k + (d + 1) + 1 = q + 1 by omega]
    simp only [psalterylaw15_BandKeeps.l0]
    subst hq
    rw [if_pos (by omega), w64 (by omega) (by omega), rd_narrow m0 m1 i0]
    by_cases c : i < m
    · rw [if_pos c, if_pos i0, if_pos (by omega), if_pos c, if_pos rfl, if_neg (by omega)]
      exact ih k (i + 1) (by omega) (by omega)
    · rw [if_neg c, if_pos (by omega), if_pos i0, if_pos (by omega), if_neg c, if_pos rfl]
      exact ih k (i + 1) (by omega) (by omega)
theorem BandKeeps : psalterylaw15_BandKeeps.Pure := by
  intro l w _ _ hl hw
  have h := Lines.of hl
  have hw := i64_of hw
  refine ⟨1000, ?_⟩
  unfold psalterylaw15_BandKeeps.f
  rw [alive_eq (by decide)]; simp only [Option.bind_some, if_true]
  rw [Narrow_eq, Kept_eq]; simp only [Option.bind_some]
  by_cases c : edgesV (l.length : Int) = [] ∨ w < 0 ∨ w > 3
  · rw [if_pos c, if_pos c]; dsimp only
    rw [if_pos rfl]
    simp only [psalterylaw15_BandKeeps.j0]
    rfl
  · have he : edgesV (l.length : Int) ≠ [] := fun x => c (.inl x)
    have w0 : 0 ≤ w := by omega
    have w3 : w ≤ 3 := by omega
    obtain ⟨_, _, _, _, n1, _⟩ := edges_ok _ he
    obtain ⟨k0, k1⟩ := kept_facts he w0 w3
    have nl := narrow_len k0 k1
    have ey : edgesV ((narrow l (kept l.length w)).length : Int) = edgesV (l.length : Int) := by rw [nl]
    rw [if_neg c, if_neg c]; dsimp only
    rw [if_pos rfl]
    simp only [psalterylaw15_BandKeeps.j0]
    rw [if_neg (by decide), Energies_eq h (.inl (by omega)), if_neg he, Energies_eq (h.narrow _) (.inl (by omega)), ey, if_neg he]; simp only [Option.bind_some]
    rw [show (999 : Nat) = (998 - l.length) + l.length + 1 by omega, keeps_l0 (by omega) k0 k1 _ _ l.length (998 - l.length) 0 (by decide) (by omega)]
    obtain ⟨q, hq⟩ : ∃ q, 998 - l.length = q + 9 := ⟨998 - l.length - 9, by omega⟩
    have qb : 500 ≤ q := by omega
    rw [hq]
    have st : ∀ (m : Nat) (i : Int), 0 ≤ i → i < 8 → psalterylaw15_BandKeeps.l1 (m + 1) w (narrow l (kept l.length w)) (enL l (edgesV l.length)) (enL (narrow l (kept l.length w)) (edgesV l.length)) i = psalterylaw15_BandKeeps.l1 m w (narrow l (kept l.length w)) (enL l (edgesV l.length)) (enL (narrow l (kept l.length w)) (edgesV l.length)) (i + 1) := by
      intro m i i0 i1
      simp only [psalterylaw15_BandKeeps.l1]
      obtain ⟨g0, g1, g2⟩ := edgeK_step he i0 i1
      have e1 : ∀ b : Int, 0 ≤ b → b ≤ l.length → enS (narrow l (kept l.length w)) b.toNat = enS l (min b.toNat (kept l.length w).toNat) := fun b _ _ => enS_narrow k0 k1 _
      have wk : kept l.length w = rd (edgesV l.length) (2 * w + 2) := rfl
      rw [if_pos i1, w64 (a := 2 * w) (by omega) (by omega), w64 (a := 2 * w + 2) (by omega) (by omega), w64 (a := i + 1) (by omega) (by omega), rd_enL _ _ i0 i1, rd_enL _ _ i0 i1]
      by_cases x : i < 2 * w + 2
      · have mo := edge_mono he (2 * w + 2 - (i + 1)).toNat (a := i + 1) (by omega) (by omega)
        rw [show i + 1 + (((2 * w + 2 - (i + 1)).toNat : Nat) : Int) = 2 * w + 2 by omega] at mo
        have eq : dE l (edgesV l.length) i = dE (narrow l (kept l.length w)) (edgesV l.length) i := by
          unfold dE
          rw [e1 _ (by omega) (by omega), e1 _ (by omega) (by omega), show min (rd (edgesV l.length) (i + 1)).toNat (kept l.length w).toNat = (rd (edgesV l.length) (i + 1)).toNat by omega, show min (rd (edgesV l.length) i).toNat (kept l.length w).toNat = (rd (edgesV l.length) i).toNat by omega]
        rw [if_pos x, if_pos i0, if_pos (by simpa [enL] using i1), if_pos (by simpa [enL] using i1), if_pos eq, if_neg (by omega)]
      · have mo := edge_mono he (i - (2 * w + 2)).toNat (a := 2 * w + 2) (by omega) (by omega)
        rw [show 2 * w + 2 + (((i - (2 * w + 2)).toNat : Nat) : Int) = i by omega] at mo
        have eq : dE (narrow l (kept l.length w)) (edgesV l.length) i = 0 := by
          unfold dE
          rw [e1 _ (by omega) (by omega), e1 _ (by omega) (by omega), show min (rd (edgesV l.length) (i + 1)).toNat (kept l.length w).toNat = (kept l.length w).toNat by omega, show min (rd (edgesV l.length) i).toNat (kept l.length w).toNat = (kept l.length w).toNat by omega]
          omega
        rw [if_neg x, if_pos (by omega), if_pos i0, if_pos (by simpa [enL] using i1), if_pos eq]
    rw [st (q + 8) _ (by decide) (by decide), show (0 : Int) + 1 = 1 from rfl, st (q + 7) _ (by decide) (by decide), show (1 : Int) + 1 = 2 from rfl, st (q + 6) _ (by decide) (by decide), show (2 : Int) + 1 = 3 from rfl, st (q + 5) _ (by decide) (by decide), show (3 : Int) + 1 = 4 from rfl, st (q + 4) _ (by decide) (by decide), show (4 : Int) + 1 = 5 from rfl, st (q + 3) _ (by decide) (by decide), show (5 : Int) + 1 = 6 from rfl, st (q + 2) _ (by decide) (by decide), show (6 : Int) + 1 = 7 from rfl, st (q + 1) _ (by decide) (by decide), show (7 : Int) + 1 = 8 from rfl]
    simp only [psalterylaw15_BandKeeps.l1]
    rw [if_neg (by decide), Narrow_eq, ey, nl, if_neg c]; simp only [Option.bind_some]
    rw [if_pos trivial, narrow_narrow k0 k1]
    unfold psalteryref08_Same32.f
    rw [if_pos rfl, SameK_l0 (by omega) (narrow l (kept l.length w)).length _ 0 (by decide) (by omega) (by omega) (by omega)]; simp only [Option.bind_some]
end Go.Proofs.Ytgmgdbcfgbgnlaa.Pure
