/- The plain statement of the law BandWidths: the energies and the width of any lines, and what is kept of them, are the reference's. No condition. -/
import Derived.Test.YtgmgdbcfgbgnlaaBandLib
namespace Go.Proofs.Ytgmgdbcfgbgnlaa.Pure
open Go.RowKit Go.Proofs.Ytgmgdbcfgbgnlaa.PBand Go.Proofs.Ytgmgdbcfgbgnlaa.Num Go.Proofs.Ytgmgdbcfgbgnlaa.BandLib Go.Proofs.YtgmgdbcfgbgnlaaW.PrintWords Go.Proofs.YtgmgdbcfgbgnlaaW.PrintLast Go.Proofs.YtgmgdbcfgbgnlaaW.PrintMore
set_option linter.unusedVariables false
theorem edge_step {n : Int} (he : edgesV n ≠ []) {b : Int} (h0 : 0 ≤ b) (h1 : b < 8) : 0 ≤ rd (edgesV n) b ∧ rd (edgesV n) b ≤ rd (edgesV n) (b + 1) ∧ rd (edgesV n) (b + 1) ≤ n := by
  obtain ⟨_, e0, e8, _, n1, o1, o2, o3, o4, o5, o6, o7, o8⟩ := edges_ok _ he
  have : b = 0 ∨ b = 1 ∨ b = 2 ∨ b = 3 ∨ b = 4 ∨ b = 5 ∨ b = 6 ∨ b = 7 := by omega
  rcases this with rfl | rfl | rfl | rfl | rfl | rfl | rfl | rfl
  · rw [show (0 : Int) + 1 = 1 from rfl]; omega
  · rw [show (1 : Int) + 1 = 2 from rfl]; omega
  · rw [show (2 : Int) + 1 = 3 from rfl]; omega
  · rw [show (3 : Int) + 1 = 4 from rfl]; omega
  · rw [show (4 : Int) + 1 = 5 from rfl]; omega
  · rw [show (5 : Int) + 1 = 6 from rfl]; omega
  · rw [show (6 : Int) + 1 = 7 from rfl]; omega
  · rw [show (7 : Int) + 1 = 8 from rfl]; omega
def cE (l es : List Int) (i : Nat) (b : Int) : Int := enS l (min i (rd es (b + 1)).toNat) - enS l (min i (rd es b).toNat)
theorem cE_step {l : List Int} (he : edgesV (l.length : Int) ≠ []) {i : Nat} (hi : i < l.length) {b : Int} (h0 : 0 ≤ b) (h1 : b < 8) :
    cE l (edgesV l.length) (i + 1) b = cE l (edgesV l.length) i b + (if b = bandV l.length i then lineE (rd l i) else 0) := by
  obtain ⟨_, b0, b8, lo, hi2, below, above, _⟩ := band_ok (n := l.length) (i := i) he (by omega) (by omega)
  obtain ⟨g0, g1, g2⟩ := edge_step he h0 h1
  unfold cE
  by_cases c : b = bandV l.length i
  · rw [if_pos c]
    subst c
    rw [show min (i + 1) (rd (edgesV l.length) (bandV l.length i + 1)).toNat = i + 1 by omega, show min i (rd (edgesV l.length) (bandV l.length i + 1)).toNat = i by omega, show min (i + 1) (rd (edgesV l.length) (bandV l.length i)).toNat = (rd (edgesV l.length) (bandV l.length i)).toNat by omega, show min i (rd (edgesV l.length) (bandV l.length i)).toNat = (rd (edgesV l.length) (bandV l.length i)).toNat by omega]
    simp only [enS]; omega
  · rw [if_neg c]
    rcases Int.lt_or_lt_of_ne c with c | c
    · have := below ⟨b.toNat, by omega⟩ (by show ((b.toNat : Nat) : Int) < _; omega)
      rw [show ((b.toNat : Nat) : Int) = b by omega] at this
      rw [show min (i + 1) (rd (edgesV l.length) (b + 1)).toNat = (rd (edgesV l.length) (b + 1)).toNat by omega, show min i (rd (edgesV l.length) (b + 1)).toNat = (rd (edgesV l.length) (b + 1)).toNat by omega, show min (i + 1) (rd (edgesV l.length) b).toNat = (rd (edgesV l.length) b).toNat by omega, show min i (rd (edgesV l.length) b).toNat = (rd (edgesV l.length) b).toNat by omega]
      omega
    · have := above ⟨b.toNat, by omega⟩ (by show _ < ((b.toNat : Nat) : Int); omega)
      rw [show ((b.toNat : Nat) : Int) = b by omega] at this
      rw [show min (i + 1) (rd (edgesV l.length) (b + 1)).toNat = i + 1 by omega, show min i (rd (edgesV l.length) (b + 1)).toNat = i by omega, show min (i + 1) (rd (edgesV l.length) b).toNat = i + 1 by omega, show min i (rd (edgesV l.length) b).toNat = i by omega]
      omega
theorem cE_range {l : List Int} (h : Lines l) (he : edgesV (l.length : Int) ≠ []) (i : Nat) {b : Int} (h0 : 0 ≤ b) (h1 : b < 8) : 0 ≤ cE l (edgesV l.length) i b ∧ cE l (edgesV l.length) i b ≤ 8646911284551352320 := by
  obtain ⟨g0, g1, g2⟩ := edge_step he h0 h1
  obtain ⟨_, _, _, _, n1, _⟩ := edges_ok _ he
  have m := enS_mono h (show min i (rd (edgesV l.length) b).toNat ≤ min i (rd (edgesV l.length) (b + 1)).toNat by omega) (by omega)
  have a := enS_range h (min i (rd (edgesV l.length) (b + 1)).toNat) (by omega)
  have c := enS_range h (min i (rd (edgesV l.length) b).toNat) (by omega)
  unfold cE
  omega
theorem rEn_l0 {l : List Int} (h : Lines l) (he : edgesV (l.length : Int) ≠ []) (d : Nat) : ∀ (k : Nat) (out : List Int) (i : Nat), i ≤ l.length → l.length - i = d → d + 20 < k → out.length = 8 → (∀ b : Int, 0 ≤ b → b < 8 → rd out b = cE l (edgesV l.length) i b) →
    psalteryref15_Energies.l0 k l out (i : Int) = some (enL l (edgesV l.length)) := by
  obtain ⟨_, _, _, _, n1, _⟩ := edges_ok _ he
  induction d with
  | zero =>
    intro k out i hi hd hk ho hv
    obtain ⟨k, rfl⟩ : ∃ m, k = m + 1 := ⟨k - 1, by omega⟩
    simp only [psalteryref15_Energies.l0]
    rw [if_neg (by omega)]
    congr 1
    refine ext_rd (by rw [ho]; rfl) fun b b0 b1 => ?_
    rw [hv b b0 (by omega), rd_enL _ _ b0 (by omega)]
    obtain ⟨g0, g1, g2⟩ := edge_step he b0 (show b < 8 by omega)
    unfold cE dE
    rw [show min i (rd (edgesV l.length) (b + 1)).toNat = (rd (edgesV l.length) (b + 1)).toNat by omega, show min i (rd (edgesV l.length) b).toNat = (rd (edgesV l.length) b).toNat by omega]
  | succ d ih =>
    intro k out i hi hd hk ho hv
    obtain ⟨k, rfl⟩ : ∃ m, k = m + 1 := ⟨k - 1, by omega⟩
    simp only [psalteryref15_Energies.l0]
    have s := h.at (i := i) (by omega) (by omega)
    have lr := lineE_range s.1 s.2
    obtain ⟨_, b0, b8, _⟩ := band_ok (n := l.length) (i := i) he (by omega) (by omega)
    have cr := cE_range h he i b0 b8
    have key : psalteryref15_Energies.l0 k l (out.set (bandV l.length i).toNat (cE l (edgesV l.length) i (bandV l.length i) + lineE (rd l i))) ((i + 1 : Nat) : Int) = some (enL l (edgesV l.length)) := by
      refine ih k _ (i + 1) (by omega) (by omega) (by omega) (by rw [List.length_set]; exact ho) fun b h0 h1 => ?_
      rw [rd_set b0 (by omega) h0, cE_step he (by omega) h0 h1]
      by_cases c : b = bandV l.length i
      · rw [if_pos c, if_pos c, c]
      · rw [if_neg c, if_neg c, hv b h0 h1]; omega
    rw [if_pos (by omega), if_pos (by omega), w64 (a := rd l i) (by omega) (by omega), Band_eq he (by omega) (by omega) (by omega)]
    simp only [Option.bind_some]
    by_cases c : rd l i < 0
    · have e : wrap64 ((wrap64 (Int.tdiv (wrap64 (-(rd l i))) 8)) * (wrap64 (Int.tdiv (wrap64 (-(rd l i))) 8))) = lineE (rd l i) := by
        rw [w64 (a := -(rd l i)) (by omega) (by omega), Int.tdiv_eq_ediv_of_nonneg (by omega), show -(rd l i) / 8 = max (rd l i) (-(rd l i)) / 8 by omega, w64 (a := max _ _ / 8) (by omega) (by omega)]
        exact w64 (by have := lr.1; unfold lineE at this; omega) (by have := lr.2.1; unfold lineE at this; omega)
      rw [if_pos c, if_pos b0, if_pos (by omega), e, hv _ b0 b8, wu64 (a := lineE _) (by omega) (by omega), wu64 (by omega) (by omega), w64 (by omega) (by omega)]
      exact key
    · have e : wrap64 ((wrap64 (Int.tdiv (rd l i) 8)) * (wrap64 (Int.tdiv (rd l i) 8))) = lineE (rd l i) := by
        rw [Int.tdiv_eq_ediv_of_nonneg (by omega), show rd l i / 8 = max (rd l i) (-(rd l i)) / 8 by omega, w64 (a := max _ _ / 8) (by omega) (by omega)]
        exact w64 (by have := lr.1; unfold lineE at this; omega) (by have := lr.2.1; unfold lineE at this; omega)
      rw [if_neg c, if_pos b0, if_pos (by omega), e, hv _ b0 b8, wu64 (a := lineE _) (by omega) (by omega), wu64 (by omega) (by omega), w64 (by omega) (by omega)]
      exact key
theorem rEnergies_eq {l : List Int} (h : Lines l) (he : edgesV (l.length : Int) ≠ []) {k : Nat} (hk : l.length + 20 < k) : psalteryref15_Energies.f k l = some (enL l (edgesV l.length)) := by
  unfold psalteryref15_Energies.f
  rw [if_pos (by decide)]
  refine rEn_l0 h he l.length k _ 0 (by omega) (by omega) hk (by simp) fun b b0 b1 => ?_
  rw [rd_replicate]; unfold cE; simp [enS]
theorem rWidth_eq {l : List Int} (h : Lines l) (he : edgesV (l.length : Int) ≠ []) {k : Nat} (hk : l.length + 60 < k) : psalteryref15_Width.f k l = some (widthV l) := by
  unfold psalteryref15_Width.f
  rw [rEnergies_eq h he (by omega)]; simp only [Option.bind_some]
  obtain ⟨p, s, sb, s0⟩ := dE_facts h he
  obtain ⟨b2, b1, b0, _⟩ := beyond_eq h he
  generalize hE : enL l (edgesV l.length) = E
  have el : (E.length : Int) = 8 := by rw [← hE]; rfl
  have er : ∀ b : Int, 0 ≤ b → b < 8 → rd E b = dE l (edgesV l.length) b := fun b x y => by rw [← hE]; exact rd_enL _ _ x y
  obtain ⟨k, rfl⟩ : ∃ m, k = m + 60 := ⟨k - 60, by omega⟩
  have st : ∀ (m : Nat) (a i : Int), 0 ≤ i → i < 8 → 0 ≤ a → 0 ≤ dE l (edgesV l.length) i → a + dE l (edgesV l.length) i ≤ 8646911284551352320 → psalteryref15_Width.l0 (m + 1) E a i = psalteryref15_Width.l0 m E (a + dE l (edgesV l.length) i) (i + 1) := by
    intro m a i i0 i1 a0 a1 a2
    simp only [psalteryref15_Width.l0]
    rw [if_pos i1, if_pos i0, if_pos (by omega), er i i0 i1, wu64 (by omega) (by omega), w64 (by omega) (by omega)]
  have st2 : ∀ (m : Nat) (t w a i : Int), 0 ≤ i → i < 8 → 0 ≤ a → 0 ≤ dE l (edgesV l.length) i → a + dE l (edgesV l.length) i ≤ 8646911284551352320 → psalteryref15_Width.l2 (m + 1) E t w a i = psalteryref15_Width.l2 m E t w (a + dE l (edgesV l.length) i) (i + 1) := by
    intro m t w a i i0 i1 a0 a1 a2
    simp only [psalteryref15_Width.l2]
    rw [if_pos i1, if_pos i0, if_pos (by omega), er i i0 i1, wu64 (by omega) (by omega), w64 (by omega) (by omega)]
  rw [st (k + 59) _ _ (by decide) (by decide) (by omega) (by omega) (by omega), show (0 : Int) + 1 = 1 from rfl,
    st (k + 58) _ _ (by decide) (by decide) (by omega) (by omega) (by omega), show (1 : Int) + 1 = 2 from rfl,
    st (k + 57) _ _ (by decide) (by decide) (by omega) (by omega) (by omega), show (2 : Int) + 1 = 3 from rfl,
    st (k + 56) _ _ (by decide) (by decide) (by omega) (by omega) (by omega), show (3 : Int) + 1 = 4 from rfl,
    st (k + 55) _ _ (by decide) (by decide) (by omega) (by omega) (by omega), show (4 : Int) + 1 = 5 from rfl,
    st (k + 54) _ _ (by decide) (by decide) (by omega) (by omega) (by omega), show (5 : Int) + 1 = 6 from rfl,
    st (k + 53) _ _ (by decide) (by decide) (by omega) (by omega) (by omega), show (6 : Int) + 1 = 7 from rfl,
    st (k + 52) _ _ (by decide) (by decide) (by omega) (by omega) (by omega), show (7 : Int) + 1 = 8 from rfl]
  have tot : 0 + dE l (edgesV l.length) 0 + dE l (edgesV l.length) 1 + dE l (edgesV l.length) 2 + dE l (edgesV l.length) 3 + dE l (edgesV l.length) 4 + dE l (edgesV l.length) 5 + dE l (edgesV l.length) 6 + dE l (edgesV l.length) 7 = enS l l.length := by omega
  rw [tot]
  have q : IntKind.u64.wrap (Int.tdiv (enS l l.length) 4096) = enS l l.length / 4096 := by rw [Int.tdiv_eq_ediv_of_nonneg s0, wu64 (by omega) (by omega)]
  have ex : ∀ (m : Nat) (w a : Int), psalteryref15_Width.l2 (m + 1) E (enS l l.length) w a 8 = if a ≤ enS l l.length / 4096 then some w else psalteryref15_Width.l1 m E (enS l l.length) (wrap64 (w + 1)) := by
    intro m w a
    simp only [psalteryref15_Width.l2]
    rw [if_neg (by decide), q]
  have u0 : ∀ m : Nat, psalteryref15_Width.l0 (m + 1) E (enS l l.length) 8 = psalteryref15_Width.l1 m E (enS l l.length) 0 := by
    intro m
    simp only [psalteryref15_Width.l0]
    rw [if_neg (by decide)]
  have u1 : ∀ (m : Nat) (w : Int), 0 ≤ w → w < 3 → psalteryref15_Width.l1 (m + 1) E (enS l l.length) w = psalteryref15_Width.l2 m E (enS l l.length) w 0 (2 * w + 2) := by
    intro m w x0 x1
    simp only [psalteryref15_Width.l1]
    rw [if_pos x1, w64 (a := 2 * w) (by omega) (by omega), w64 (by omega) (by omega)]
  have u2 : ∀ (m : Nat), psalteryref15_Width.l1 (m + 1) E (enS l l.length) 3 = some 3 := by
    intro m
    simp only [psalteryref15_Width.l1]
    rw [if_neg (by decide)]
  have c0 : psalteryref15_Width.l0 (k + 52) E (enS l l.length) 8 = psalteryref15_Width.l2 (k + 50) E (enS l l.length) 0 0 2 := by
    rw [u0 (k + 51), u1 (k + 50) 0 (by decide) (by decide)]; rfl
  have c1 : psalteryref15_Width.l1 (k + 43) E (enS l l.length) (wrap64 (0 + 1)) = psalteryref15_Width.l2 (k + 42) E (enS l l.length) 1 0 4 := by
    rw [w64 (by decide) (by decide), show (0 : Int) + 1 = 1 from rfl, u1 (k + 42) 1 (by decide) (by decide)]; rfl
  have c2 : psalteryref15_Width.l1 (k + 37) E (enS l l.length) (wrap64 (1 + 1)) = psalteryref15_Width.l2 (k + 36) E (enS l l.length) 2 0 6 := by
    rw [w64 (by decide) (by decide), show (1 : Int) + 1 = 2 from rfl, u1 (k + 36) 2 (by decide) (by decide)]; rfl
  have c3 : psalteryref15_Width.l1 (k + 33) E (enS l l.length) (wrap64 (2 + 1)) = some 3 := by
    rw [w64 (by decide) (by decide), show (2 : Int) + 1 = 3 from rfl, u2 (k + 32)]
  rw [c0, st2 (k + 49) _ _ _ _ (by decide) (by decide) (by omega) (by omega) (by omega), show (2 : Int) + 1 = 3 from rfl, st2 (k + 48) _ _ _ _ (by decide) (by decide) (by omega) (by omega) (by omega), show (3 : Int) + 1 = 4 from rfl, st2 (k + 47) _ _ _ _ (by decide) (by decide) (by omega) (by omega) (by omega), show (4 : Int) + 1 = 5 from rfl, st2 (k + 46) _ _ _ _ (by decide) (by decide) (by omega) (by omega) (by omega), show (5 : Int) + 1 = 6 from rfl, st2 (k + 45) _ _ _ _ (by decide) (by decide) (by omega) (by omega) (by omega), show (6 : Int) + 1 = 7 from rfl, st2 (k + 44) _ _ _ _ (by decide) (by decide) (by omega) (by omega) (by omega), show (7 : Int) + 1 = 8 from rfl, ex (k + 43), c1]
  rw [st2 (k + 41) _ _ _ _ (by decide) (by decide) (by omega) (by omega) (by omega), show (4 : Int) + 1 = 5 from rfl, st2 (k + 40) _ _ _ _ (by decide) (by decide) (by omega) (by omega) (by omega), show (5 : Int) + 1 = 6 from rfl, st2 (k + 39) _ _ _ _ (by decide) (by decide) (by omega) (by omega) (by omega), show (6 : Int) + 1 = 7 from rfl, st2 (k + 38) _ _ _ _ (by decide) (by decide) (by omega) (by omega) (by omega), show (7 : Int) + 1 = 8 from rfl, ex (k + 37), c2]
  rw [st2 (k + 35) _ _ _ _ (by decide) (by decide) (by omega) (by omega) (by omega), show (6 : Int) + 1 = 7 from rfl, st2 (k + 34) _ _ _ _ (by decide) (by decide) (by omega) (by omega) (by omega), show (7 : Int) + 1 = 8 from rfl, ex (k + 33), c3]
  unfold widthV
  rw [b2, b1, b0]
  by_cases x0 : dE l (edgesV l.length) 2 + dE l (edgesV l.length) 3 + dE l (edgesV l.length) 4 + dE l (edgesV l.length) 5 + dE l (edgesV l.length) 6 + dE l (edgesV l.length) 7 ≤ enS l l.length / 4096
  · rw [if_pos (by omega), if_neg (by omega), if_neg (by omega), if_neg (by omega)]
  · rw [if_neg (by omega)]
    by_cases x1 : dE l (edgesV l.length) 4 + dE l (edgesV l.length) 5 + dE l (edgesV l.length) 6 + dE l (edgesV l.length) 7 ≤ enS l l.length / 4096
    · rw [if_pos (by omega), if_neg (by omega), if_neg (by omega), if_pos (by omega)]
    · rw [if_neg (by omega)]
      by_cases x2 : dE l (edgesV l.length) 6 + dE l (edgesV l.length) 7 ≤ enS l l.length / 4096
      · rw [if_pos (by omega), if_neg (by omega), if_pos (by omega)]
      · rw [if_neg (by omega), if_pos (by omega)]
theorem rNarrow_l0 {l : List Int} (he : edgesV (l.length : Int) ≠ []) {w : Int} (w0 : 0 ≤ w) (w1 : w ≤ 3) (d : Nat) : ∀ (k : Nat) (out : List Int) (i : Int), 0 ≤ i → (l.length : Int) - i = d → d + 20 < k → (out.length : Int) = i → Upto (fun j => if j < kept l.length w then rd l j else 0) out i →
    ∃ r, psalteryref15_Narrow.l0 k l w out i = some r ∧ Fills l.length (fun j => if j < kept l.length w then rd l j else 0) r := by
  obtain ⟨_, _, _, _, n1, _⟩ := edges_ok _ he
  induction d with
  | zero =>
    intro k out i i0 hd hk ho hu
    obtain ⟨k, rfl⟩ : ∃ m, k = m + 1 := ⟨k - 1, by omega⟩
    simp only [psalteryref15_Narrow.l0]
    rw [if_neg (by omega)]
    exact ⟨out, rfl, hu.fills (by omega) (by omega)⟩
  | succ d ih =>
    intro k out i i0 hd hk ho hu
    obtain ⟨k, rfl⟩ : ∃ m, k = m + 1 := ⟨k - 1, by omega⟩
    simp only [psalteryref15_Narrow.l0]
    obtain ⟨_, _, _, _, _, _, _, ww⟩ := band_ok (n := l.length) (i := i) he i0 (by omega)
    have wi := ww ⟨w.toNat, by omega⟩
    rw [show ((w.toNat : Nat) : Int) = w by omega] at wi
    rw [if_pos (by omega), if_pos i0, Band_eq he i0 (by omega) (by omega)]; simp only [Option.bind_some]
    rw [w64 (a := 2 * w) (by omega) (by omega), w64 (a := 2 * w + 2) (by omega) (by omega), w64 (a := i + 1) (by omega) (by omega)]
    by_cases c : bandV l.length i ≥ 2 * w + 2
    · have := wi.1 c
      rw [if_pos c, if_pos (by omega)]
      exact ih k _ (i + 1) (by omega) (by omega) (by omega) (len_snoc ho) (hu.snoc (by omega) (by show 0 = if i < kept l.length w then rd l i else 0; unfold kept; rw [if_neg (by omega)]))
    · have : i < rd (edgesV l.length) (2 * w + 2) := by
        rcases Int.lt_or_le i (rd (edgesV l.length) (2 * w + 2)) with x | x
        · exact x
        · exact absurd (wi.2 x) c
      rw [if_neg c, if_pos (by omega)]
      exact ih k _ (i + 1) (by omega) (by omega) (by omega) (len_snoc ho) (hu.snoc (by omega) (by show rd l i = if i < kept l.length w then rd l i else 0; unfold kept; rw [if_pos this]))
theorem rNarrow_eq {l : List Int} (he : edgesV (l.length : Int) ≠ []) {w : Int} (w0 : 0 ≤ w) (w1 : w ≤ 3) {k : Nat} (hk : l.length + 20 < k) : psalteryref15_Narrow.f k l w = some (narrow l (kept l.length w)) := by
  unfold psalteryref15_Narrow.f
  obtain ⟨r, hr, hf⟩ := rNarrow_l0 he w0 w1 l.length k [] 0 (by decide) (by omega) hk rfl (Upto.none _ _)
  obtain ⟨k0, k1⟩ := kept_facts he w0 w1
  rw [hr]
  congr 1
  exact hf.unique ⟨narrow_len k0 k1, fun j j0 j1 => rd_narrow k0 k1 j0⟩
theorem Same_l0 {a : List Int} (hl : a.length ≤ 1000000) (d : Nat) : ∀ (k : Nat) (i : Int), 0 ≤ i → i ≤ a.length → (a.length : Int) - i = d → d < k → psalteryref08_Same32.l0 k a a i = some true := by
  induction d with
  | zero =>
    intro k i i0 i1 hd hk
    obtain ⟨k, rfl⟩ : ∃ m, k = m + 1 := ⟨k - 1, by omega⟩
    simp only [psalteryref08_Same32.l0]
    rw [if_neg (by omega)]
  | succ d ih =>
    intro k i i0 i1 hd hk
    obtain ⟨k, rfl⟩ : ∃ m, k = m + 1 := ⟨k - 1, by omega⟩
    simp only [psalteryref08_Same32.l0]
    rw [if_pos (by omega), if_pos i0, if_pos (by omega), if_true, w64 (by omega) (by omega)]
    exact ih k (i + 1) (by omega) (by omega) (by omega) (by omega)
theorem Same_eq {a : List Int} (hl : a.length ≤ 1000000) {k : Nat} (hk : a.length < k) : psalteryref08_Same32.f k a a = some true := by
  unfold psalteryref08_Same32.f
  rw [if_pos rfl]
  exact Same_l0 hl a.length k 0 (by decide) (by omega) (by omega) hk
theorem BandWidths : psalterylaw15_BandWidths.Pure := by
  intro l w _ _ hl hw
  have h := Lines.of hl
  have hw := i64_of hw
  refine ⟨1000, ?_⟩
  unfold psalterylaw15_BandWidths.f
  rw [alive_eq (by decide)]; simp only [Option.bind_some, if_true]
  by_cases c : (l.length : Int) > 300
  · rw [if_pos c]
  · rw [if_neg c, Energies_eq h (.inl (by omega)), Width_eq h (by decide) (.inl (by omega)), Narrow_eq]
    unfold psalteryref15_May.f
    rw [May_eq]; simp only [Option.bind_some]
    by_cases he : edgesV (l.length : Int) = []
    · simp [he]
    · obtain ⟨_, _, _, _, n1, _⟩ := edges_ok _ he
      rw [if_neg he, if_neg he, decide_eq_true he, if_pos rfl, rEnergies_eq h he (by omega)]; simp only [Option.bind_some]
      rw [if_pos trivial, if_pos (by rfl), if_pos trivial, rWidth_eq h he (by omega)]; simp only [Option.bind_some]
      rw [show (widthV l != widthV l) = false by simp]
      simp only [psalterylaw15_BandWidths.j0]
      rw [if_neg (by decide)]
      have st : ∀ (m : Nat) (i : Int) (x9 : List Int) (x10 : Int), 0 ≤ i → i < 8 → psalterylaw15_BandWidths.l0 (m + 1) l w (enL l (edgesV l.length)) x9 x10 (enL l (edgesV l.length)) i = psalterylaw15_BandWidths.l0 m l w (enL l (edgesV l.length)) x9 x10 (enL l (edgesV l.length)) (i + 1) := by
        intro m i x9 x10 i0 i1
        simp only [psalterylaw15_BandWidths.l0]
        rw [if_pos i1, if_pos i0, if_pos (by simpa [enL] using i1), if_pos trivial, w64 (by omega) (by omega), if_pos (by simpa [enL] using i1)]
      rw [st 998 _ _ _ (by decide) (by decide), show (0 : Int) + 1 = 1 from rfl, st 997 _ _ _ (by decide) (by decide), show (1 : Int) + 1 = 2 from rfl, st 996 _ _ _ (by decide) (by decide), show (2 : Int) + 1 = 3 from rfl, st 995 _ _ _ (by decide) (by decide), show (3 : Int) + 1 = 4 from rfl, st 994 _ _ _ (by decide) (by decide), show (4 : Int) + 1 = 5 from rfl, st 993 _ _ _ (by decide) (by decide), show (5 : Int) + 1 = 6 from rfl, st 992 _ _ _ (by decide) (by decide), show (6 : Int) + 1 = 7 from rfl, st 991 _ _ _ (by decide) (by decide)]
      have ex : ∀ (m : Nat) (x9 x11 : List Int) (x10 : Int), psalterylaw15_BandWidths.l0 (m + 1) l w (enL l (edgesV l.length)) x9 x10 x11 8 = (if w < 0 then (psalterylaw15_BandWidths.j2 m l w x9 x10 true) else (psalterylaw15_BandWidths.j2 m l w x9 x10 (decide (w > 3)))) := by
        intro m x9 x11 x10
        simp only [psalterylaw15_BandWidths.l0]
        rw [if_neg (by decide)]
      rw [show (7 : Int) + 1 = 8 from rfl, ex 990]
      by_cases c1 : w < 0
      · rw [if_pos c1, if_pos (.inr (.inl c1))]; rfl
      · rw [if_neg c1]
        by_cases c2 : w > 3
        · rw [decide_eq_true c2, if_pos (.inr (.inr c2))]; rfl
        · rw [decide_eq_false c2, if_neg (by rintro (x | x | x); exact he x; exact c1 x; exact c2 x)]
          simp only [psalterylaw15_BandWidths.j2]
          rw [if_neg Bool.false_ne_true, if_pos trivial, rNarrow_eq he (by omega) (by omega) (by omega)]; simp only [Option.bind_some]
          obtain ⟨k0, k1⟩ := kept_facts he (show 0 ≤ w by omega) (by omega)
          have nl := narrow_len k0 k1
          rw [Same_eq (by omega) (by omega)]; simp only [Option.bind_some]
end Go.Proofs.Ytgmgdbcfgbgnlaa.Pure
