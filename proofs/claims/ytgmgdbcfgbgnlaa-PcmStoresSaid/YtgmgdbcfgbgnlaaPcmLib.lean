/- Samples parted into channels and woven again, their peak and their energy: the functions of pcm and psalteryref10 as plain functions. -/
import Derived.Test.YtgmgdbcfgbgnlaaWeaveLibPcm
import Derived.Test.YtgmgdbcfgbgnlaaSameLibPcm
import Derived.Test.YtgmgdbcfgbgnlaaFill
namespace Go.Proofs.Ytgmgdbcfgbgnlaa.PcmLib
open Go.RowKit Go.Proofs.Ytgmgdbcfgbgnlaa.PPcm Go.Proofs.Ytgmgdbcfgbgnlaa.Num Go.Proofs.Ytgmgdbcfgbgnlaa.SameLibPcm Go.Proofs.Ytgmgdbcfgbgnlaa.WeaveLibPcm Go.Proofs.YtgmgdbcfgbgnlaaW.PrintWords Go.Proofs.YtgmgdbcfgbgnlaaW.PrintLast Go.Proofs.YtgmgdbcfgbgnlaaW.PrintMore
set_option linter.unusedVariables false
set_option linter.unusedSimpArgs false

theorem rdL_set {xs : List (List Int)} {i j : Int} {v : List Int} (hi : 0 ≤ i) (h : i < xs.length) (hj : 0 ≤ j) : rd_L1 (xs.set i.toNat v) j = if j = i then v else rd_L1 xs j := by
  unfold rd_L1
  by_cases e : j = i
  · subst e
    rw [if_pos rfl, List.getD_eq_getElem?_getD, List.getElem?_set_self (by omega)]; rfl
  · rw [if_neg e, List.getD_eq_getElem?_getD, List.getD_eq_getElem?_getD, List.getElem?_set_ne (by omega)]
theorem rdL_rep {n : Nat} {j : Int} : rd_L1 (List.replicate n []) j = [] := by
  unfold rd_L1
  rw [List.getD_eq_getElem?_getD, List.getElem?_replicate]
  split <;> rfl
/-- Sample t of channel j of c. -/
def chanV (l : List Int) (c j t : Int) : Int := rd l (j + t * c)

/-! one channel, by the reference -/
theorem Channel_l0 {l : List Int} {c : Int} (hc : c = 1 ∨ c = 2) (m : Nat) (hm : (l.length : Int) = m * c) (hl : l.length ≤ 1000000) {j : Int} (j0 : 0 ≤ j) (j1 : j < c) (d : Nat) : ∀ (k : Nat) (out : List Int) (t : Int), 0 ≤ t → (m : Int) - t = d → d < k → (out.length : Int) = t → Upto (chanV l c j) out t →
    ∃ r, psalteryref10_Channel.l0 k l c out (j + t * c) = some r ∧ Fills m (chanV l c j) r := by
  induction d with
  | zero =>
    intro k out t t0 hd hk ho hu
    obtain ⟨k, rfl⟩ : ∃ m, k = m + 1 := ⟨k - 1, by omega⟩
    simp only [psalteryref10_Channel.l0]
    rw [if_neg (by rcases hc with rfl | rfl <;> omega)]
    exact ⟨out, rfl, hu.fills (by omega) (by omega)⟩
  | succ d ih =>
    intro k out t t0 hd hk ho hu
    obtain ⟨k, rfl⟩ : ∃ m, k = m + 1 := ⟨k - 1, by omega⟩
    simp only [psalteryref10_Channel.l0]
    have em : (t + 1) * c = t * c + c := by rw [Int.add_mul, Int.one_mul]
    have lt : 0 ≤ j + t * c ∧ j + t * c < l.length ∧ t ≤ 1000000 := by rcases hc with rfl | rfl <;> omega
    rw [if_pos lt.2.1, if_pos lt.1, if_pos (by omega), w64 (by omega) (by omega), show j + t * c + c = j + (t + 1) * c by omega]
    exact ih k _ (t + 1) (by omega) (by omega) (by omega) (len_snoc ho) (hu.snoc (by omega) rfl)
theorem Channel_eq {l : List Int} {c : Int} (hc : c = 1 ∨ c = 2) (m : Nat) (hm : (l.length : Int) = m * c) (hl : l.length ≤ 1000000) {j : Int} (j0 : 0 ≤ j) (j1 : j < c) {k : Nat} (hk : m < k) : ∃ r, psalteryref10_Channel.f k l j c = some r ∧ Fills m (chanV l c j) r := by
  unfold psalteryref10_Channel.f
  have h := Channel_l0 hc m hm hl j0 j1 m k [] 0 (by decide) (by omega) hk rfl (Upto.none _ _)
  rw [Int.zero_mul, Int.add_zero] at h
  exact h

/-! into channels -/
/-- The parts after i samples. -/
def Parts (l : List Int) (c : Int) (x : List (List Int)) (i : Int) : Prop := (x.length : Int) = c ∧ ∀ j : Int, 0 ≤ j → j < c → ((rd_L1 x j).length : Int) = (i + c - 1 - j) / c ∧ Upto (chanV l c j) (rd_L1 x j) ((i + c - 1 - j) / c)
theorem Part_l0 {l : List Int} {c : Int} (hc : c = 1 ∨ c = 2) (hl : l.length ≤ 1000000) (d : Nat) : ∀ (k : Nat) (x : List (List Int)) (i : Int), 0 ≤ i → (l.length : Int) - i = d → d < k → Parts l c x i →
    ∃ r, pcm_Part.l0 k c x l (l.length : Int) i = some (r, 0) ∧ Parts l c r l.length := by
  induction d with
  | zero =>
    intro k x i i0 hd hk hp
    obtain ⟨k, rfl⟩ : ∃ m, k = m + 1 := ⟨k - 1, by omega⟩
    simp only [pcm_Part.l0]
    rw [if_neg (by omega)]
    have e : i = (l.length : Int) := by omega
    subst e
    exact ⟨x, rfl, hp⟩
  | succ d ih =>
    intro k x i i0 hd hk hp
    obtain ⟨k, rfl⟩ : ∃ m, k = m + 1 := ⟨k - 1, by omega⟩
    simp only [pcm_Part.l0]
    have m0 : 0 ≤ i % c := by rcases hc with rfl | rfl <;> omega
    have m1 : i % c < c := by rcases hc with rfl | rfl <;> omega
    obtain ⟨p1, p2⟩ := hp.2 (i % c) m0 m1
    have hx := hp.1
    have le : (i + c - 1 - i % c) / c ≤ i := by rcases hc with rfl | rfl <;> omega
    have at' : i % c + (i + c - 1 - i % c) / c * c = i := by rcases hc with rfl | rfl <;> omega
    have nx : (i + 1 + c - 1 - i % c) / c = (i + c - 1 - i % c) / c + 1 := by rcases hc with rfl | rfl <;> omega
    rw [if_pos (by omega), if_pos i0, if_pos (by omega), if_neg (by rcases hc with rfl | rfl <;> omega), Int.tmod_eq_emod_of_nonneg i0, if_pos m0, if_pos (by omega), if_pos (by omega), w64 (by omega) (by omega)]
    refine ih k _ (i + 1) (by omega) (by omega) (by omega) ⟨by rw [List.length_set]; exact hx, fun j j0 j1 => ?_⟩
    rw [rdL_set m0 (by omega) j0]
    by_cases e : j = i % c
    · subst e
      rw [if_pos rfl, nx]
      exact ⟨len_snoc p1, p2.snoc p1.symm (by unfold chanV; rw [at'])⟩
    · rw [if_neg e]
      have same : (i + 1 + c - 1 - j) / c = (i + c - 1 - j) / c := by rcases hc with rfl | rfl <;> omega
      rw [same]
      exact hp.2 j j0 j1
theorem Part_eq {l : List Int} {c : Int} (hc : c = 1 ∨ c = 2) (m : Nat) (hm : (l.length : Int) = m * c) (hl : l.length ≤ 1000000) {k : Nat} (hk : l.length + 1 < k) :
    ∃ r, pcm_Part.f k l c = some (r, 0) ∧ (r.length : Int) = c ∧ ∀ j : Int, 0 ≤ j → j < c → Fills m (chanV l c j) (rd_L1 r j) := by
  obtain ⟨k, rfl⟩ : ∃ m, k = m + 1 := ⟨k - 1, by omega⟩
  unfold pcm_Part.f
  have dv : (l.length : Int) % c = 0 := by rcases hc with rfl | rfl <;> omega
  rw [if_neg (by omega), if_neg (by omega), if_neg (by omega), dv]
  simp only [pcm_Part.j0]
  rw [if_neg (by decide), if_pos (by omega), if_pos (by omega)]
  obtain ⟨r, hr, hp⟩ := Part_l0 hc hl l.length k (List.replicate c.toNat []) 0 (by decide) (by omega) (by omega) ⟨by rw [List.length_replicate]; omega, fun j j0 j1 => by
    have z : (0 + c - 1 - j) / c = 0 := by rcases hc with rfl | rfl <;> omega
    rw [rdL_rep, z]
    exact ⟨rfl, Upto.none _ _⟩⟩
  refine ⟨r, hr, hp.1, fun j j0 j1 => ?_⟩
  obtain ⟨p1, p2⟩ := hp.2 j j0 j1
  have z : ((l.length : Int) + c - 1 - j) / c = m := by rcases hc with rfl | rfl <;> omega
  rw [z] at p1 p2
  exact p2.fills (by omega) (by omega)
theorem Part_bad {l : List Int} {c : Int} (h : ¬ (c = 1 ∨ c = 2 ∧ (l.length : Int) % 2 = 0)) {k : Nat} (hk : 1 < k) : pcm_Part.f k l c = some ([], 1) := by
  obtain ⟨k, rfl⟩ : ∃ m, k = m + 1 := ⟨k - 1, by omega⟩
  have bad : pcm_Part.j0 (k + 1) l c true = some ([], 1) := by simp only [pcm_Part.j0]; rw [if_pos trivial]
  unfold pcm_Part.f
  by_cases c1 : c < 1
  · rw [if_pos c1, bad]
  · rw [if_neg c1]
    by_cases c2 : c > 2
    · rw [if_pos c2, bad]
    · have e : c = 2 := by omega
      subst e
      rw [if_neg c2, if_neg (by omega), show ((l.length : Int) % 2 != 0) = true by simp; omega, bad]
/-- A list woven of its parts is the list. -/
theorem Weave_back {l : List Int} {c : Int} (hc : c = 1 ∨ c = 2) (m : Nat) (hm : (l.length : Int) = m * c) (hl : l.length ≤ 1000000) {p : List (List Int)} (hp : (p.length : Int) = c) (hf : ∀ j : Int, 0 ≤ j → j < c → Fills m (chanV l c j) (rd_L1 p j)) {k : Nat} (hk : 4 * m + 1 < k) :
    pcm_Weave.f k p = some (l, 0) := by
  obtain ⟨r, hr, hfr⟩ := Weave_ok (ls := p) (by omega) (by omega) m (fun j j0 j1 => (hf j j0 (by omega)).1) (by rcases hc with rfl | rfl <;> omega) hk
  have e : r = l := by
    have hlen : m * p.length = l.length := by
      have : (m : Int) * p.length = l.length := by rw [hp, hm]
      exact_mod_cast this
    refine hfr.eq (m := l.length) (W := rd l) ⟨rfl, fun _ _ _ => rfl⟩ hlen fun q q0 q1 => ?_
    have q2 : q < m * c := by rw [← hm]; have := hfr.1; omega
    unfold weaveV
    rw [hp]
    have a0 : 0 ≤ q % c := by rcases hc with rfl | rfl <;> omega
    have a1 : q % c < c := by rcases hc with rfl | rfl <;> omega
    have b0 : 0 ≤ q / c := by rcases hc with rfl | rfl <;> omega
    have b1 : q / c < m := by rcases hc with rfl | rfl <;> omega
    rw [(hf (q % c) a0 a1).2 (q / c) b0 b1]
    unfold chanV
    congr 1
    rcases hc with rfl | rfl <;> omega
  rw [hr, e]
theorem alive_eq {k : Nat} (hk : 20 ≤ k) : psalterylaw10_alive.f k = some true := by
  unfold psalterylaw10_alive.f
  obtain ⟨p, hp, hc, hf⟩ := Part_eq (l := [1, 2, 3, 4]) (c := 2) (Or.inr rfl) 2 (by simp) (by simp) (k := k) (by simp; omega)
  have e0 : rd_L1 p 0 = [1, 3] := (hf 0 (by decide) (by decide)).eq (m := 2) (W := fun j => rd [1, 3] j) ⟨rfl, fun _ _ _ => rfl⟩ rfl fun j h0 h1 => by
    have : j = 0 ∨ j = 1 := by omega
    rcases this with rfl | rfl <;> decide +kernel
  have e1 : rd_L1 p 1 = [2, 4] := (hf 1 (by decide) (by decide)).eq (m := 2) (W := fun j => rd [2, 4] j) ⟨rfl, fun _ _ _ => rfl⟩ rfl fun j h0 h1 => by
    have : j = 0 ∨ j = 1 := by omega
    rcases this with rfl | rfl <;> decide +kernel
  rw [hp]
  simp only [Option.bind_some]
  rw [if_pos trivial, if_pos hc, if_pos (by omega), e0, e1, Same_eq (by simp) (by simp; omega), Same_eq (by simp) (by simp; omega), Same_eq (by simp) (by simp; omega)]
  simp only [Option.bind_some]
  rw [if_pos trivial, if_pos (by omega), if_pos trivial, if_pos trivial]

/-! peak and energy -/
theorem size_eq {x : Int} (h1 : -32768 ≤ x) (h2 : x ≤ 32767) : pcm_size.f x = some (mx x (-x)) := by
  unfold pcm_size.f
  rw [w64 (a := x) (by omega) (by omega), w64 (by omega) (by omega)]
def peak (l : List Int) : Nat → Int → Int → Int
  | 0, _, a => a
  | d + 1, i, a => peak l d (i + 1) (mx a (mx (rd l i) (-(rd l i))))
theorem Peak_l0 {l : List Int} (h : Sams l) (hl : l.length ≤ 1000000) (d : Nat) : ∀ (k : Nat) (a i : Int), 0 ≤ i → (l.length : Int) - i = d → d < k → pcm_Peak.l0 k a l (l.length : Int) i = some (peak l d i a) := by
  induction d with
  | zero =>
    intro k a i i0 hd hk
    obtain ⟨k, rfl⟩ : ∃ m, k = m + 1 := ⟨k - 1, by omega⟩
    simp only [pcm_Peak.l0]
    rw [if_neg (by omega)]; rfl
  | succ d ih =>
    intro k a i i0 hd hk
    obtain ⟨k, rfl⟩ : ∃ m, k = m + 1 := ⟨k - 1, by omega⟩
    simp only [pcm_Peak.l0]
    have s := h.at i0 (by omega)
    rw [if_pos (by omega), if_pos i0, if_pos (by omega), size_eq s.1 s.2]
    simp only [Option.bind_some]
    rw [w64 (by omega) (by omega)]
    exact ih k _ (i + 1) (by omega) (by omega) (by omega)
theorem rPeak_l0 {l : List Int} (h : Sams l) (hl : l.length ≤ 1000000) (d : Nat) : ∀ (k : Nat) (a i : Int), 0 ≤ i → (l.length : Int) - i = d → d < k → psalteryref10_Peak.l0 k l a i = some (peak l d i a) := by
  induction d with
  | zero =>
    intro k a i i0 hd hk
    obtain ⟨k, rfl⟩ : ∃ m, k = m + 1 := ⟨k - 1, by omega⟩
    simp only [psalteryref10_Peak.l0]
    rw [if_neg (by omega)]; rfl
  | succ d ih =>
    intro k a i i0 hd hk
    obtain ⟨k, rfl⟩ : ∃ m, k = m + 1 := ⟨k - 1, by omega⟩
    simp only [psalteryref10_Peak.l0]
    have s := h.at i0 (by omega)
    have nx : ∀ b, b = mx a (mx (rd l i) (-(rd l i))) → psalteryref10_Peak.l0 k l b (i + 1) = some (peak l (d + 1) i a) := fun b e => by
      subst e; exact ih k _ (i + 1) (by omega) (by omega) (by omega)
    rw [if_pos (by omega), if_pos i0, w64 (a := rd l i) (by omega) (by omega), w64 (a := -(rd l i)) (by omega) (by omega), w64 (a := i + 1) (by omega) (by omega)]
    unfold mx at nx
    (repeat' split) <;> (refine nx _ ?_; (repeat' split) <;> omega)
theorem Peak_same {l : List Int} (h : Sams l) (hl : l.length ≤ 1000000) {k : Nat} (hk : l.length < k) : ∃ v, pcm_Peak.f k l = some v ∧ psalteryref10_Peak.f k l = some v := by
  unfold pcm_Peak.f psalteryref10_Peak.f
  exact ⟨_, Peak_l0 h hl l.length k 0 0 (by decide) (by omega) hk, rPeak_l0 h hl l.length k 0 0 (by decide) (by omega) hk⟩
def energy (l : List Int) : Nat → Int → Int → Int
  | 0, _, a => a
  | d + 1, i, a => energy l d (i + 1) (IntKind.u64.wrap (a + IntKind.u64.wrap (rd l i * rd l i)))
theorem Energy_l0 {l : List Int} (h : Sams l) (hl : l.length ≤ 1000000) (d : Nat) : ∀ (k : Nat) (a i : Int), 0 ≤ i → (l.length : Int) - i = d → d < k → pcm_Energy.l0 k a l (l.length : Int) i = some (energy l d i a) := by
  induction d with
  | zero =>
    intro k a i i0 hd hk
    obtain ⟨k, rfl⟩ : ∃ m, k = m + 1 := ⟨k - 1, by omega⟩
    simp only [pcm_Energy.l0]
    rw [if_neg (by omega)]; rfl
  | succ d ih =>
    intro k a i i0 hd hk
    obtain ⟨k, rfl⟩ : ∃ m, k = m + 1 := ⟨k - 1, by omega⟩
    simp only [pcm_Energy.l0]
    have s := h.at i0 (by omega)
    have p := mul_abs (A := 32768) (B := 32768) (a := rd l i) (b := rd l i) (by omega) (by omega) (by omega) (by omega)
    have q : mx (rd l i) (-(rd l i)) * mx (rd l i) (-(rd l i)) = rd l i * rd l i := by
      unfold mx
      split
      · first | rfl | rw [Int.neg_mul_neg]
      · first | rfl | rw [Int.neg_mul_neg]
    rw [if_pos (by omega), if_pos i0, if_pos (by omega), size_eq s.1 s.2]
    simp only [Option.bind_some]
    rw [q, w64 (a := rd l i * rd l i) (by omega) (by omega), w64 (by omega) (by omega)]
    exact ih k _ (i + 1) (by omega) (by omega) (by omega)
theorem rEnergy_l0 {l : List Int} (h : Sams l) (hl : l.length ≤ 1000000) (d : Nat) : ∀ (k : Nat) (a i : Int), 0 ≤ i → (l.length : Int) - i = d → d < k → psalteryref10_Energy.l0 k l a i = some (energy l d i a) := by
  induction d with
  | zero =>
    intro k a i i0 hd hk
    obtain ⟨k, rfl⟩ : ∃ m, k = m + 1 := ⟨k - 1, by omega⟩
    simp only [psalteryref10_Energy.l0]
    rw [if_neg (by omega)]; rfl
  | succ d ih =>
    intro k a i i0 hd hk
    obtain ⟨k, rfl⟩ : ∃ m, k = m + 1 := ⟨k - 1, by omega⟩
    simp only [psalteryref10_Energy.l0]
    have s := h.at i0 (by omega)
    have p := mul_abs (A := 32768) (B := 32768) (a := rd l i) (b := rd l i) (by omega) (by omega) (by omega) (by omega)
    rw [if_pos (by omega), if_pos i0, w64 (a := rd l i) (by omega) (by omega), w64 (a := rd l i * rd l i) (by omega) (by omega), w64 (by omega) (by omega)]
    exact ih k _ (i + 1) (by omega) (by omega) (by omega)
theorem Energy_same {l : List Int} (h : Sams l) (hl : l.length ≤ 1000000) {k : Nat} (hk : l.length < k) : ∃ v, pcm_Energy.f k l = some v ∧ psalteryref10_Energy.f k l = some v := by
  unfold pcm_Energy.f psalteryref10_Energy.f
  exact ⟨_, Energy_l0 h hl l.length k 0 0 (by decide) (by omega) hk, rEnergy_l0 h hl l.length k 0 0 (by decide) (by omega) hk⟩
end Go.Proofs.Ytgmgdbcfgbgnlaa.PcmLib
