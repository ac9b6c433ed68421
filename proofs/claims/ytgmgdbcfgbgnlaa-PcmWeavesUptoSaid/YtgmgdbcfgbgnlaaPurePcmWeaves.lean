/- The plain statement of the law PcmWeaves: what is woven parts again, by the reference, into what it was; what cannot be woven is refused. No condition. -/
import Derived.Test.YtgmgdbcfgbgnlaaPcmLib
import Derived.Test.YtgmgdbcfgbgnlaaPPcmx3
namespace Go.Proofs.Ytgmgdbcfgbgnlaa.Pure
open Go.RowKit Go.Proofs.Ytgmgdbcfgbgnlaa.PPcm Go.Proofs.Ytgmgdbcfgbgnlaa.Num Go.Proofs.Ytgmgdbcfgbgnlaa.PcmLib Go.Proofs.Ytgmgdbcfgbgnlaa.SameLibPcm Go.Proofs.Ytgmgdbcfgbgnlaa.WeaveLibPcm Go.Proofs.YtgmgdbcfgbgnlaaW.PrintWords Go.Proofs.YtgmgdbcfgbgnlaaW.PrintLast Go.Proofs.YtgmgdbcfgbgnlaaW.PrintMore
set_option linter.unusedVariables false
theorem weaves_l0 {ls : List (List Int)} {c : Int} (hc : c = 1 ∨ c = 2) (hl : (ls.length : Int) = c) (n : Nat) (hn : ∀ j : Int, 0 ≤ j → j < c → (rd_L1 ls j).length = n) (hn2 : n ≤ 3000) {w : List Int} (hw : Fills (n * ls.length) (weaveV ls) w) (d : Nat) :
    ∀ (k : Nat) (i : Int), 0 ≤ i → c - i = d → 20000 + d < k → psalterylaw10_PcmWeaves.l0 k ls w i = some true := by
  have hwl : (w.length : Int) = n * c := by rw [hw.1, ← hl]; push_cast; rfl
  have wl : w.length ≤ 6000 := by rcases hc with rfl | rfl <;> omega
  induction d with
  | zero =>
    intro k i i0 hd hk
    obtain ⟨k, rfl⟩ : ∃ m, k = m + 1 := ⟨k - 1, by omega⟩
    simp only [psalterylaw10_PcmWeaves.l0]
    rw [if_neg (by omega)]
  | succ d ih =>
    intro k i i0 hd hk
    obtain ⟨k, rfl⟩ : ∃ m, k = m + 1 := ⟨k - 1, by omega⟩
    simp only [psalterylaw10_PcmWeaves.l0]
    obtain ⟨r, hr, hrf⟩ := Channel_eq hc n hwl (by omega) i0 (show i < c by omega) (k := k) (by omega)
    have hi := hn i i0 (by omega)
    have e : r = rd_L1 ls i := hrf.eq (m := n) (W := rd (rd_L1 ls i)) ⟨hi, fun _ _ _ => rfl⟩ rfl fun t t0 t1 => by
      unfold chanV
      have b : 0 ≤ i + t * c ∧ i + t * c < n * c ∧ (i + t * c) % c = i ∧ (i + t * c) / c = t := by rcases hc with rfl | rfl <;> omega
      rw [hw.2 (i + t * c) b.1 (by push_cast; rw [hl]; exact b.2.1)]
      unfold weaveV
      rw [hl, b.2.2.1, b.2.2.2]
    subst e
    rw [if_pos (by omega), hl, hr]
    simp only [Option.bind_some]
    rw [if_pos i0, Same_eq (by omega) (by omega)]
    simp only [Option.bind_some]
    rw [if_pos trivial, w64 (by omega) (by omega)]
    exact ih k (i + 1) (by omega) (by omega) (by omega)
/-- Lists of one length, one or two. -/
theorem weaves_good {ls : List (List Int)} (hc : (ls.length : Int) = 1 ∨ (ls.length : Int) = 2) (he : (ls.length : Int) = 2 → (rd_L1 ls 0).length = (rd_L1 ls 1).length) {n : Nat} (hn : (rd_L1 ls 0).length = n) {k : Nat} (hk : 50000 < k) (k2 : Nat) (hk2 : 40000 < k2) (hs : n ≤ 3000) :
    ∃ w, pcm_Weave.f k ls = some (w, 0) ∧ psalterylaw10_PcmWeaves.j0 k2 ls w 0 false = some true := by
  have hall : ∀ j : Int, 0 ≤ j → j < ls.length → (rd_L1 ls j).length = n := fun j j0 j1 => by
    have : j = 0 ∨ j = 1 ∧ (ls.length : Int) = 2 := by omega
    rcases this with rfl | ⟨rfl, h2⟩
    · exact hn
    · rw [← he h2]; exact hn
  obtain ⟨w, hw, hf⟩ := Weave_ok (ls := ls) (by omega) (by omega) n hall (by omega) (k := k) (by omega)
  refine ⟨w, hw, ?_⟩
  obtain ⟨k2, rfl⟩ : ∃ m, k2 = m + 2 := ⟨k2 - 2, by omega⟩
  simp only [psalterylaw10_PcmWeaves.j0]
  have hl2 : wrap64 ((ls.length : Int) * ((rd_L1 ls 0).length : Int)) = (w.length : Int) := by
    rw [hn, hf.1]
    have e : (ls.length : Int) * (n : Int) = ((n * ls.length : Nat) : Int) := by push_cast; exact Int.mul_comm _ _
    rw [e]
    exact w64 (by omega) (by rw [← e]; rcases hc with h | h <;> rw [h] <;> omega)
  rw [if_neg (by decide), if_pos (by omega), if_neg (by omega), if_pos trivial, hl2, show ((w.length : Int) != (w.length : Int)) = false by simp]
  simp only [psalterylaw10_PcmWeaves.j1]
  rw [if_neg (by decide)]
  exact weaves_l0 hc rfl n hall hs hf ls.length k2 0 (by decide) (by omega) (by omega)
/-- Longer lists are woven too. -/
theorem weaves_long {ls : List (List Int)} (w : List Int) (e : Int) (hc : 1 ≤ ls.length) (hs : 3000 < (rd_L1 ls 0).length) (k2 : Nat) (hk2 : 40000 < k2) : psalterylaw10_PcmWeaves.j0 k2 ls w e false = some true := by
  obtain ⟨k2, rfl⟩ : ∃ m, k2 = m + 2 := ⟨k2 - 2, by omega⟩
  simp only [psalterylaw10_PcmWeaves.j0]
  rw [if_neg (by decide), if_pos (by omega), if_pos (by omega)]
theorem weaves_bad {ls : List (List Int)} (k2 : Nat) (hk2 : 40000 < k2) : psalterylaw10_PcmWeaves.j0 k2 ls [] 1 true = some true := by
  obtain ⟨k2, rfl⟩ : ∃ m, k2 = m + 2 := ⟨k2 - 2, by omega⟩
  simp only [psalterylaw10_PcmWeaves.j0]
  rw [if_pos trivial, if_pos (by simp)]
  simp
theorem Weave_bad {ls : List (List Int)} (h : ¬ ((ls.length : Int) = 1 ∨ (ls.length : Int) = 2 ∧ (rd_L1 ls 0).length = (rd_L1 ls 1).length)) {k : Nat} (hk : 1 < k) : pcm_Weave.f k ls = some ([], 1) := by
  obtain ⟨k, rfl⟩ : ∃ m, k = m + 1 := ⟨k - 1, by omega⟩
  have bad : pcm_Weave.j0 (k + 1) ls true = some ([], 1) := by simp only [pcm_Weave.j0]; rw [if_pos trivial]
  unfold pcm_Weave.f
  by_cases c1 : (ls.length : Int) < 1
  · rw [if_pos c1, bad]
  · rw [if_neg c1]
    by_cases c2 : (ls.length : Int) > 2
    · rw [if_pos c2, bad]
    · have e : (ls.length : Int) = 2 := by omega
      rw [if_neg c2, if_pos (by omega), e, w64 (by omega) (by omega), if_pos (by omega), if_pos (by omega)]
      rw [show (((rd_L1 ls 0).length : Int) != ((rd_L1 ls (2 - 1)).length : Int)) = true by
        have : ((rd_L1 ls 0).length : Int) ≠ ((rd_L1 ls 1).length : Int) := fun q => h (Or.inr ⟨e, by omega⟩)
        simpa using this]
      exact bad
theorem rdL_mem {l : List (List Int)} {i : Int} (h0 : 0 ≤ i) (h1 : i < l.length) : rd_L1 l i ∈ l := by
  unfold rd_L1
  rw [List.getD_eq_getElem?_getD, List.getElem?_eq_getElem (by omega)]
  exact List.getElem_mem _
theorem PcmWeaves (ls : List (List Int)) (hb : ∀ r ∈ ls, r.length ≤ 1048576) : ∃ k, psalterylaw10_PcmWeaves.f k ls = some true := by
  refine ⟨5000000, ?_⟩
  obtain ⟨k, hk⟩ : ∃ k : Nat, k = 5000000 := ⟨_, rfl⟩
  rw [← hk]
  unfold psalterylaw10_PcmWeaves.f
  rw [alive_eq (by omega)]
  simp only [Option.bind_some]
  rw [if_pos trivial]
  by_cases h : (ls.length : Int) > 10
  · rw [if_pos h]
  rw [if_neg h]
  by_cases g : (ls.length : Int) = 1 ∨ (ls.length : Int) = 2 ∧ (rd_L1 ls 0).length = (rd_L1 ls 1).length
  · have hn := hb _ (rdL_mem (l := ls) (i := 0) (by decide) (by omega))
    obtain ⟨n, hn0⟩ : ∃ n, (rd_L1 ls 0).length = n := ⟨_, rfl⟩
    have hall : ∀ j : Int, 0 ≤ j → j < ls.length → (rd_L1 ls j).length = n := fun j j0 j1 => by
      have : j = 0 ∨ j = 1 ∧ (ls.length : Int) = 2 := by omega
      rcases this with rfl | ⟨rfl, h2⟩
      · exact hn0
      · rcases g with g | ⟨_, g⟩
        · omega
        · rw [← g]; exact hn0
    obtain ⟨w, hw, fin⟩ : ∃ w, pcm_Weave.f k ls = some (w, 0) ∧ psalterylaw10_PcmWeaves.j0 k ls w 0 false = some true := by
      by_cases c : n ≤ 3000
      · exact weaves_good (by omega) (fun h2 => by
          rcases g with g | ⟨_, g⟩
          · omega
          · exact g) hn0 (by omega) k (by omega) c
      · obtain ⟨w, hw, _⟩ := Weave_ok (ls := ls) (by omega) (by omega) n hall (by omega) (k := k) (by omega)
        exact ⟨w, hw, weaves_long w 0 (by omega) (by omega) k (by omega)⟩
    rw [hw]
    simp only [Option.bind_some]
    rcases g with g | ⟨g, g2⟩
    · rw [if_pos g]; exact fin
    · rw [if_neg (by omega), if_pos g, if_pos (by omega), if_pos (by omega), g2, show (((rd_L1 ls 1).length : Int) != ((rd_L1 ls 1).length : Int)) = false by simp]
      exact fin
  · rw [Weave_bad g (by omega)]
    simp only [Option.bind_some]
    rw [if_neg (by omega)]
    by_cases c2 : (ls.length : Int) = 2
    · rw [if_pos c2, if_pos (by omega), if_pos (by omega), show (((rd_L1 ls 0).length : Int) != ((rd_L1 ls 1).length : Int)) = true by
        have : ((rd_L1 ls 0).length : Int) ≠ ((rd_L1 ls 1).length : Int) := fun q => g (Or.inr ⟨c2, by omega⟩)
        simpa using this]
      exact weaves_bad k (by omega)
    · rw [if_neg c2]; exact weaves_bad k (by omega)
end Go.Proofs.Ytgmgdbcfgbgnlaa.Pure
