/- The plain statement of the law PcmParts: what is parted is what the reference parts, weaves back to what it was, and is refused where it must be; peak and energy are the reference's. No condition. -/
import Derived.Test.YtgmgdbcfgbgnlaaPcmLib
import Derived.Test.YtgmgdbcfgbgnlaaPPcmx5
namespace Go.Proofs.Ytgmgdbcfgbgnlaa.Pure
open Go.RowKit Go.Proofs.Ytgmgdbcfgbgnlaa.PPcm Go.Proofs.Ytgmgdbcfgbgnlaa.Num Go.Proofs.Ytgmgdbcfgbgnlaa.PcmLib Go.Proofs.Ytgmgdbcfgbgnlaa.SameLibPcm Go.Proofs.YtgmgdbcfgbgnlaaW.PrintWords Go.Proofs.YtgmgdbcfgbgnlaaW.PrintLast Go.Proofs.YtgmgdbcfgbgnlaaW.PrintMore
set_option linter.unusedVariables false
theorem parts_l0 {l : List Int} {c : Int} (hc : c = 1 ∨ c = 2) (m : Nat) (hm : (l.length : Int) = m * c) (hl : l.length ≤ 5000) {p : List (List Int)} (hp : (p.length : Int) = c) (hf : ∀ j : Int, 0 ≤ j → j < c → Fills m (chanV l c j) (rd_L1 p j)) (d : Nat) :
    ∀ (k : Nat) (i : Int), 0 ≤ i → c - i = d → 30000 + d < k → psalterylaw10_PcmParts.l0 k l c p i = some true := by
  have ml : m ≤ 5000 := by rcases hc with rfl | rfl <;> omega
  induction d with
  | zero =>
    intro k i i0 hd hk
    obtain ⟨k, rfl⟩ : ∃ m, k = m + 1 := ⟨k - 1, by omega⟩
    simp only [psalterylaw10_PcmParts.l0]
    rw [if_neg (by omega), Weave_back hc m hm (by omega) hp hf (by omega)]
    simp only [Option.bind_some]
    rw [if_pos trivial, Same_eq (by omega) (by omega)]
    rfl
  | succ d ih =>
    intro k i i0 hd hk
    obtain ⟨k, rfl⟩ : ∃ m, k = m + 1 := ⟨k - 1, by omega⟩
    simp only [psalterylaw10_PcmParts.l0]
    obtain ⟨r, hr, hrf⟩ := Channel_eq hc m hm (by omega) i0 (show i < c by omega) (k := k) (by omega)
    have e : r = rd_L1 p i := hrf.unique (hf i i0 (by omega))
    subst e
    rw [if_pos (by omega), if_pos i0, if_pos (by omega), hr]
    simp only [Option.bind_some]
    rw [Same_eq (by rw [hrf.1]; omega) (by rw [hrf.1]; omega)]
    simp only [Option.bind_some]
    rw [if_pos trivial, w64 (by omega) (by omega)]
    exact ih k (i + 1) (by omega) (by omega) (by omega)
theorem parts_j1 {l : List Int} {c : Int} (hl : l.length ≤ 5000) {k : Nat} (hk : 50000 < k) {p : List (List Int)} {e : Int} (hP : pcm_Part.f k l c = some (p, e)) (k2 : Nat) (hk2 : 40000 < k2) (b : Bool) (hb : b = true ↔ ¬ (c = 1 ∨ c = 2 ∧ (l.length : Int) % 2 = 0)) :
    psalterylaw10_PcmParts.j1 k2 l c p e b = some true := by
  obtain ⟨k2, rfl⟩ : ∃ m, k2 = m + 2 := ⟨k2 - 2, by omega⟩
  simp only [psalterylaw10_PcmParts.j1]
  by_cases g : c = 1 ∨ c = 2 ∧ (l.length : Int) % 2 = 0
  · have hb' : b = false := by cases b <;> simp_all
    subst hb'
    have hc : c = 1 ∨ c = 2 := by omega
    obtain ⟨m, hm⟩ : ∃ m : Nat, (l.length : Int) = m * c := by
      rcases g with rfl | ⟨rfl, g⟩
      · exact ⟨l.length, by omega⟩
      · exact ⟨l.length / 2, by omega⟩
    obtain ⟨r, hr, hc', hf⟩ := Part_eq hc m hm (by omega) (k := k) (by omega)
    rw [hP] at hr
    obtain ⟨rfl, rfl⟩ := Prod.mk.inj (Option.some.inj hr)
    rw [if_neg (by decide), if_pos rfl]
    simp only [psalterylaw10_PcmParts.j2]
    rw [hc', if_neg (by simp)]
    exact parts_l0 hc m hm hl hc' hf c.toNat k2 0 (by decide) (by omega) (by omega)
  · have hb' : b = true := hb.2 g
    subst hb'
    rw [Part_bad g (by omega)] at hP
    obtain ⟨rfl, rfl⟩ := Prod.mk.inj (Option.some.inj hP)
    rw [if_pos rfl, if_pos (by simp)]
    rfl
theorem PcmParts : psalterylaw10_PcmParts.Pure := by
  intro l c _ _ hl _
  have s := Sams.of hl
  refine ⟨60000, ?_⟩
  obtain ⟨k, hk⟩ : ∃ k : Nat, k = 60000 := ⟨_, rfl⟩
  rw [← hk]
  unfold psalterylaw10_PcmParts.f
  rw [alive_eq (by omega)]
  simp only [Option.bind_some]
  rw [if_pos trivial]
  by_cases h : (l.length : Int) > 5000
  · rw [if_pos h]
  rw [if_neg h]
  obtain ⟨pe, hP⟩ : ∃ pe, pcm_Part.f k l c = some pe := by
    by_cases g : c = 1 ∨ c = 2 ∧ (l.length : Int) % 2 = 0
    · obtain ⟨m, hm⟩ : ∃ m : Nat, (l.length : Int) = m * c := by
        rcases g with rfl | ⟨rfl, g⟩
        · exact ⟨l.length, by omega⟩
        · exact ⟨l.length / 2, by omega⟩
      obtain ⟨r, hr, _⟩ := Part_eq (c := c) (by omega) m hm (by omega) (k := k) (by omega)
      exact ⟨_, hr⟩
    · exact ⟨_, Part_bad g (by omega)⟩
  obtain ⟨v, v1, v2⟩ := Peak_same s (by omega) (k := k) (by omega)
  obtain ⟨u, u1, u2⟩ := Energy_same s (by omega) (k := k) (by omega)
  rw [hP, v1, v2, u1, u2]
  simp only [Option.bind_some]
  rw [if_pos trivial, show (u != u) = false by simp]
  have fin := parts_j1 (c := c) (by omega) (k := k) (by omega) (p := pe.1) (e := pe.2) hP
  obtain ⟨k2, hk2⟩ : ∃ m, k = m + 1 := ⟨k - 1, by omega⟩
  rw [hk2]
  simp only [psalterylaw10_PcmParts.j0]
  rw [if_neg (by decide)]
  by_cases c1 : c = 1
  · rw [if_pos c1, if_neg (by omega)]
    exact fin k2 (by omega) _ (by subst c1; simp)
  · rw [if_neg c1]
    by_cases c2 : c = 2
    · rw [if_pos c2, if_neg (by omega)]
      exact fin k2 (by omega) _ (by subst c2; simp)
    · rw [if_neg c2]
      exact fin k2 (by omega) _ (by first | (simp; done) | (simp; omega))
end Go.Proofs.Ytgmgdbcfgbgnlaa.Pure
