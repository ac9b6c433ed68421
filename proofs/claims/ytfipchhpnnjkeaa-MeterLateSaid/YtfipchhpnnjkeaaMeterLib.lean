/- How loud, how near, how late, where it is still: the functions of meter, pcm and their references as plain functions of lists. -/
import Derived.Test.YtfipchhpnnjkeaaRefLogsMeter
namespace Go.Proofs.Ytfipchhpnnjkeaa.MeterLib
open Go.RowKit Go.Proofs.Ytfipchhpnnjkeaa.PMeter Go.Proofs.Ytfipchhpnnjkeaa.Num Go.Proofs.Ytfipchhpnnjkeaa.FixBaseMeter Go.Proofs.Ytfipchhpnnjkeaa.LogsBaseMeter Go.Proofs.Ytfipchhpnnjkeaa.RefLogsMeter Go.Proofs.YtfipchhpnnjkeaaW.PrintWords Go.Proofs.YtfipchhpnnjkeaaW.PrintLast Go.Proofs.YtfipchhpnnjkeaaW.PrintMore
set_option linter.unusedSimpArgs false
set_option linter.unusedVariables false

def Sams (l : List Int) : Prop := ∀ x ∈ l, -32768 ≤ x ∧ x ≤ 32767
theorem Sams.el {l : List Int} (h : Sams l) (i : Int) : -32768 ≤ rd l i ∧ rd l i ≤ 32767 := by
  unfold rd
  rw [List.getD_eq_getElem?_getD]
  by_cases hi : i.toNat < l.length
  · rw [List.getElem?_eq_getElem hi]; exact h _ (List.getElem_mem _)
  · rw [List.getElem?_eq_none (by omega)]; decide
theorem sq_range {x : Int} (h1 : -32768 ≤ x) (h2 : x ≤ 32767) : 0 ≤ x * x ∧ x * x ≤ 1073741824 := by
  have := mul_abs (a := x) (b := x) (A := 32768) (B := 32768) (by omega) (by omega) (by omega) (by omega)
  have : 0 ≤ x * x := by
    rcases Int.le_total 0 x with h | h
    · exact Int.mul_nonneg h h
    · exact Int.mul_nonneg_of_nonpos_of_nonpos h h
  omega
theorem prod_range {x y : Int} (h1 : -32768 ≤ x) (h2 : x ≤ 32767) (h3 : -32768 ≤ y) (h4 : y ≤ 32767) : -1073741824 ≤ x * y ∧ x * y ≤ 1073741824 := by
  have := mul_abs (a := x) (b := y) (A := 32768) (B := 32768) (by omega) (by omega) (by omega) (by omega)
  omega
/-- The sum of the first squares. -/
def sumSq (l : List Int) : Nat → Int
  | 0 => 0
  | n + 1 => sumSq l n + rd l n * rd l n
theorem sumSq_range {l : List Int} (h : Sams l) (n : Nat) : 0 ≤ sumSq l n ∧ sumSq l n ≤ 1073741824 * n := by
  induction n with
  | zero => simp [sumSq]
  | succ n ih => simp only [sumSq]; have := h.el (n : Int); have := sq_range this.1 this.2; omega
theorem sumSq_mono {l : List Int} (h : Sams l) {m n : Nat} (hmn : m ≤ n) : sumSq l m ≤ sumSq l n := by
  induction n with
  | zero => obtain rfl : m = 0 := by omega
            exact Int.le_refl _
  | succ n ih =>
    by_cases e : m = n + 1
    · rw [e]; exact Int.le_refl _
    · have := ih (by omega); simp only [sumSq]; have := h.el (n : Int); have := sq_range this.1 this.2; omega
def energy (l : List Int) : Int := sumSq l l.length
theorem Energy_l0 {l : List Int} (h : Sams l) (hl : l.length ≤ 5000) (d : Nat) : ∀ (k : Nat) (i : Nat), i ≤ l.length → l.length - i = d → d < k → pcm_Energy.l0 k (sumSq l i) l (l.length : Int) (i : Int) = some (energy l) := by
  induction d with
  | zero =>
    intro k i i1 hd hk
    obtain ⟨k, rfl⟩ : ∃ m, k = m + 1 := ⟨k - 1, by omega⟩
    simp only [pcm_Energy.l0]
    rw [if_neg (by omega)]
    obtain rfl : i = l.length := by omega
    rfl
  | succ d ih =>
    intro k i i1 hd hk
    obtain ⟨k, rfl⟩ : ∃ m, k = m + 1 := ⟨k - 1, by omega⟩
    have v := h.el (i : Int)
    have s := sq_range v.1 v.2
    have r := sumSq_range h i
    have e : pcm_size.f (rd l i) = some (max (rd l i) (-(rd l i))) := by
      unfold pcm_size.f mx; rw [w64 (by omega) (by omega), w64 (by omega) (by omega)]
      split <;> exact congrArg some (by omega)
    have e2 : max (rd l i) (-(rd l i)) * max (rd l i) (-(rd l i)) = rd l i * rd l i := by
      rcases Int.le_total 0 (rd l i) with h | h
      · rw [show max (rd l i) (-(rd l i)) = rd l i by omega]
      · rw [show max (rd l i) (-(rd l i)) = -(rd l i) by omega, Int.neg_mul_neg]
    simp only [pcm_Energy.l0]
    rw [if_pos (by omega), if_pos (by omega), if_pos (by omega), e]; simp only [Option.bind_some]
    rw [e2, w64 (a := rd l i * rd l i) (by omega) (by omega), wu64 (a := rd l i * rd l i) (by omega) (by omega), wu64 (by omega) (by omega), w64 (by omega) (by omega)]
    exact ih k (i + 1) (by omega) (by omega) (by omega)
theorem Energy_eq {l : List Int} (h : Sams l) (hl : l.length ≤ 5000) {k : Nat} (hk : l.length < k) : pcm_Energy.f k l = some (energy l) := by
  unfold pcm_Energy.f
  exact Energy_l0 h hl l.length k 0 (by omega) (by omega) hk
theorem rEnergy_l0 {l : List Int} (h : Sams l) (hl : l.length ≤ 5000) (d : Nat) : ∀ (k : Nat) (i : Nat), i ≤ l.length → l.length - i = d → d < k → psalteryref10_Energy.l0 k l (sumSq l i) (i : Int) = some (energy l) := by
  induction d with
  | zero =>
    intro k i i1 hd hk
    obtain ⟨k, rfl⟩ : ∃ m, k = m + 1 := ⟨k - 1, by omega⟩
    simp only [psalteryref10_Energy.l0]
    rw [if_neg (by omega)]
    obtain rfl : i = l.length := by omega
    rfl
  | succ d ih =>
    intro k i i1 hd hk
    obtain ⟨k, rfl⟩ : ∃ m, k = m + 1 := ⟨k - 1, by omega⟩
    have v := h.el (i : Int)
    have s := sq_range v.1 v.2
    have r := sumSq_range h i
    simp only [psalteryref10_Energy.l0]
    rw [if_pos (by omega), if_pos (by omega), w64 (a := rd l i) (by omega) (by omega), w64 (a := rd l i * rd l i) (by omega) (by omega), wu64 (a := rd l i * rd l i) (by omega) (by omega), wu64 (by omega) (by omega), w64 (by omega) (by omega)]
    exact ih k (i + 1) (by omega) (by omega) (by omega)
theorem rEnergy_eq {l : List Int} (h : Sams l) (hl : l.length ≤ 5000) {k : Nat} (hk : l.length < k) : psalteryref10_Energy.f k l = some (energy l) := by
  unfold psalteryref10_Energy.f
  exact rEnergy_l0 h hl l.length k 0 (by omega) (by omega) hk
theorem energy_range {l : List Int} (h : Sams l) (hl : l.length ≤ 5000) : 0 ≤ energy l ∧ energy l ≤ 5368709120000 := by
  have := sumSq_range h l.length; unfold energy; omega
theorem log_eq {n : Int} (h0 : 0 ≤ n) (h1 : n ≤ 5368709120000) {k : Nat} (hk : 10 ≤ k) : meter_log.f k n = some (logV (n + 1)) := by
  unfold meter_log.f
  rw [wu64 (by omega) (by omega), Log_eq (by omega) (by omega) hk, if_neg (by omega)]; rfl
/-- How loud. -/
def levelV (l : List Int) : Int := logV (energy l / max (l.length : Int) 1 + 1)
theorem Level_eq {l : List Int} (h : Sams l) (hl : l.length ≤ 5000) {k : Nat} (hk : 10 ≤ k) (hk2 : l.length < k) : meter_Level.f k l = some (levelV l) := by
  have r := energy_range h hl
  unfold meter_Level.f levelV
  have e : mx (l.length : Int) 1 = max (l.length : Int) 1 := by unfold mx; split <;> omega
  have d := ediv_range (n := energy l) (p := max (l.length : Int) 1) (lo := 0) (hi := 5368709120000) (by omega) (by decide) (by decide) r.1 r.2
  rw [Energy_eq h hl hk2]; simp only [Option.bind_some]
  rw [e, wu64 (a := max (l.length : Int) 1) (by omega) (by omega), if_neg (by omega), Int.tdiv_eq_ediv_of_nonneg r.1, wu64 (by omega) (by omega), log_eq d.1 d.2 hk]; rfl
theorem rLevel_eq {l : List Int} (h : Sams l) (hl : l.length ≤ 5000) {k : Nat} (hk : 80 ≤ k) (hk2 : l.length < k) : psalteryref31_Level.f k l = some (levelV l) := by
  have r := energy_range h hl
  unfold psalteryref31_Level.f levelV
  by_cases g : (l.length : Int) > 0
  · have e : max (l.length : Int) 1 = l.length := by omega
    have d := ediv_range (n := energy l) (p := (l.length : Int)) (lo := 0) (hi := 5368709120000) (by omega) (by decide) (by decide) r.1 r.2
    rw [if_pos g, rEnergy_eq h hl hk2]; simp only [Option.bind_some]
    rw [wu64 (a := (l.length : Int)) (by omega) (by omega), if_neg (by omega), Int.tdiv_eq_ediv_of_nonneg r.1, wu64 (a := energy l / _) (by omega) (by omega), wu64 (by omega) (by omega), rLog_eq (by omega) (by omega) hk, if_neg (by omega), e, Int.add_comm]; rfl
  · obtain rfl : l = [] := List.length_eq_zero_iff.1 (by omega)
    rw [if_neg g, rLog_eq (by decide) (by decide) hk, if_neg (by decide)]; rfl

/-! errors -/
/-- The differences of two lists, as many as both have. -/
def Diffs (a b r : List Int) : Prop := (r.length : Int) = min (a.length : Int) (b.length : Int) ∧ ∀ i : Int, 0 ≤ i → i < r.length → rd r i = sat16 (rd a i - rd b i)
theorem Diffs.unique {a b r s : List Int} (h : Diffs a b r) (g : Diffs a b s) : r = s :=
  ext_rd (by have := h.1; have := g.1; omega) fun i h0 h1 => by rw [h.2 i h0 h1, g.2 i h0 (by have := h.1; have := g.1; omega)]
theorem mem_rd {P : Int → Prop} {r : List Int} (h : ∀ i : Int, 0 ≤ i → i < r.length → P (rd r i)) : ∀ x ∈ r, P x := by
  intro x hx
  obtain ⟨n, hn, rfl⟩ := List.mem_iff_getElem.1 hx
  have := h n (by omega) (by omega)
  unfold rd at this
  rw [Int.toNat_natCast, List.getD_eq_getElem?_getD, List.getElem?_eq_getElem hn] at this
  exact this
theorem Diffs.sams {a b r : List Int} (h : Diffs a b r) : Sams r := mem_rd fun i h0 h1 => by rw [h.2 i h0 h1]; exact sat16_range _
theorem Error_l0 {a b : List Int} (ha : Sams a) (hb : Sams b) (n : Nat) (hn : (n : Int) = min (a.length : Int) (b.length : Int)) (hl : n ≤ 5000) (d : Nat) : ∀ (k : Nat) (out : List Int) (i : Int), 0 ≤ i → i ≤ n → n - i = d → d < k → out.length = n → (∀ j : Int, 0 ≤ j → j < i → rd out j = sat16 (rd a j - rd b j)) →
    ∃ r, meter_Error.l0 k a b out (n : Int) i = some r ∧ Diffs a b r := by
  induction d with
  | zero =>
    intro k out i i0 i1 hd hk ho hj
    obtain ⟨k, rfl⟩ : ∃ m, k = m + 1 := ⟨k - 1, by omega⟩
    simp only [meter_Error.l0]
    rw [if_neg (by omega)]
    exact ⟨out, rfl, by omega, fun j x y => hj j x (by omega)⟩
  | succ d ih =>
    intro k out i i0 i1 hd hk ho hj
    obtain ⟨k, rfl⟩ : ∃ m, k = m + 1 := ⟨k - 1, by omega⟩
    have v := ha.el i
    have u := hb.el i
    simp only [meter_Error.l0]
    rw [if_pos (by omega), if_pos i0, if_pos (by omega), if_pos (by omega), w64 (a := rd a i) (by omega) (by omega), w64 (a := rd b i) (by omega) (by omega), w64 (a := _ - _) (by omega) (by omega), Sat16_eq]; simp only [Option.bind_some]
    rw [if_pos (by omega), w64 (by omega) (by omega)]
    refine ih k _ (i + 1) (by omega) (by omega) (by omega) (by omega) (by rw [List.length_set]; exact ho) fun j x y => ?_
    rw [rd_set i0 (by omega) x]
    split
    · rename_i e; rw [e]
    · exact hj j x (by omega)
theorem Error_eq {a b : List Int} (ha : Sams a) (hb : Sams b) (hl : a.length ≤ 5000 ∨ b.length ≤ 5000) {k : Nat} (hk : a.length < k ∨ b.length < k) : ∃ r, meter_Error.f k a b = some r ∧ Diffs a b r := by
  have e : mn (a.length : Int) (b.length : Int) = min (a.length : Int) (b.length : Int) := by unfold mn; split <;> omega
  unfold meter_Error.f
  rw [e, if_pos (by omega), if_pos (by omega)]; simp only [Option.bind_some]
  rw [List.length_replicate]
  exact Error_l0 ha hb (min (a.length : Int) (b.length : Int)).toNat (by omega) (by omega) (min (a.length : Int) (b.length : Int)).toNat k _ 0 (by decide) (by omega) (by omega) (by omega) (by simp) (fun j x y => by omega)
theorem rError_l0 {a b : List Int} (ha : Sams a) (hb : Sams b) (hl : min (a.length : Int) (b.length : Int) ≤ 5000) (d : Nat) : ∀ (k : Nat) (out : List Int) (i : Int), 0 ≤ i → i ≤ min (a.length : Int) (b.length : Int) → min (a.length : Int) (b.length : Int) - i = d → d < k → (out.length : Int) = i → (∀ j : Int, 0 ≤ j → j < i → rd out j = sat16 (rd a j - rd b j)) →
    ∃ r, psalteryref31_Error.l0 k a b out i = some r ∧ Diffs a b r := by
  induction d with
  | zero =>
    intro k out i i0 i1 hd hk ho hj
    obtain ⟨k, rfl⟩ : ∃ m, k = m + 1 := ⟨k - 1, by omega⟩
    have dd : Diffs a b out := ⟨by omega, fun j x y => hj j x (by omega)⟩
    simp only [psalteryref31_Error.l0]
    by_cases g : i < (a.length : Int)
    · rw [if_pos g, if_neg (by omega)]; exact ⟨out, rfl, dd⟩
    · rw [if_neg g]; exact ⟨out, rfl, dd⟩
  | succ d ih =>
    intro k out i i0 i1 hd hk ho hj
    obtain ⟨k, rfl⟩ : ∃ m, k = m + 1 := ⟨k - 1, by omega⟩
    have v := ha.el i
    have u := hb.el i
    have sr := sat16_range (rd a i - rd b i)
    simp only [psalteryref31_Error.l0]
    rw [if_pos (by omega), if_pos (by omega), if_pos i0, w64 (a := rd a i) (by omega) (by omega), w64 (a := rd b i) (by omega) (by omega), w64 (a := _ - _) (by omega) (by omega), rSat16_eq]; simp only [Option.bind_some]
    rw [if_pos (by omega), wi16 sr.1 sr.2, w64 (by omega) (by omega)]
    refine ih k _ (i + 1) (by omega) (by omega) (by omega) (by omega) (by rw [List.length_append, List.length_singleton]; omega) fun j x y => ?_
    rw [rd_snoc x (by omega)]
    by_cases e : j = out.length
    · rw [if_pos e, e, ho]
    · rw [if_neg e]; exact hj j x (by omega)
theorem rError_eq {a b : List Int} (ha : Sams a) (hb : Sams b) (hl : a.length ≤ 5000 ∨ b.length ≤ 5000) {k : Nat} (hk : a.length < k ∨ b.length < k) : ∃ r, psalteryref31_Error.f k a b = some r ∧ Diffs a b r := by
  unfold psalteryref31_Error.f
  exact rError_l0 ha hb (by omega) (min (a.length : Int) (b.length : Int)).toNat k [] 0 (by decide) (by omega) (by omega) (by omega) rfl (fun j x y => by omega)
theorem Sams.take {l : List Int} (h : Sams l) (n : Nat) : Sams (l.take n) := fun x hx => h x (List.mem_of_mem_take hx)
/-- How near: r are the differences. -/
def ratioV (a r : List Int) : Int := logV (energy (a.take r.length) + 1) - logV (energy r + 1)
theorem ratio_range {a r : List Int} (ha : Sams a) (hr : Sams r) (hl : r.length ≤ 5000) : -16383 ≤ ratioV a r ∧ ratioV a r ≤ 16383 ∧ 0 ≤ energy (a.take r.length) ∧ energy (a.take r.length) ≤ 5368709120000 ∧ 0 ≤ energy r ∧ energy r ≤ 5368709120000 := by
  have e1 := energy_range (ha.take r.length) (by rw [List.length_take]; omega)
  have e2 := energy_range hr hl
  have l1 := logV_range (n := energy (a.take r.length) + 1) (by omega) (by omega)
  have l2 := logV_range (n := energy r + 1) (by omega) (by omega)
  unfold ratioV; omega
theorem Ratio_eq {a b : List Int} (ha : Sams a) (hb : Sams b) (hl : a.length ≤ 5000 ∨ b.length ≤ 5000) {k : Nat} (hk : 10 ≤ k) (hk2 : a.length < k ∨ b.length < k) : ∃ r, meter_Ratio.f k a b = some (ratioV a r) ∧ Diffs a b r := by
  obtain ⟨r, hr, hd⟩ := Error_eq ha hb hl hk2
  have hl2 : r.length ≤ 5000 := by have := hd.1; omega
  have rr := ratio_range ha hd.sams hl2
  unfold meter_Ratio.f
  rw [hr]; simp only [Option.bind_some]
  have hd1 := hd.1
  rw [if_pos (by omega), if_pos (by omega), Int.toNat_natCast, Energy_eq (ha.take _) (by rw [List.length_take]; omega) (by rw [List.length_take]; omega)]; simp only [Option.bind_some]
  rw [log_eq (by omega) (by omega) hk]; simp only [Option.bind_some]
  rw [Energy_eq hd.sams hl2 (by omega)]; simp only [Option.bind_some]
  rw [log_eq (by omega) (by omega) hk]; simp only [Option.bind_some]
  rw [w32 (by unfold ratioV at rr; omega) (by unfold ratioV at rr; omega)]
  exact ⟨r, rfl, hd⟩
theorem rRatio_eq {a b : List Int} (ha : Sams a) (hb : Sams b) (hl : a.length ≤ 5000 ∨ b.length ≤ 5000) {k : Nat} (hk : 80 ≤ k) (hk2 : a.length < k ∨ b.length < k) : ∃ r, psalteryref31_Ratio.f k a b = some (ratioV a r) ∧ Diffs a b r := by
  obtain ⟨r, hr, hd⟩ := rError_eq ha hb hl hk2
  have hl2 : r.length ≤ 5000 := by have := hd.1; omega
  have rr := ratio_range ha hd.sams hl2
  have hd1 := hd.1
  have e : mn (a.length : Int) (b.length : Int) = (r.length : Int) := by unfold mn; split <;> omega
  unfold psalteryref31_Ratio.f
  rw [e, if_pos (by omega), if_pos (by omega), Int.toNat_natCast, rEnergy_eq (ha.take _) (by rw [List.length_take]; omega) (by rw [List.length_take]; omega)]; simp only [Option.bind_some]
  rw [wu64 (by omega) (by omega), rLog_eq (by omega) (by omega) hk, if_neg (by omega)]; simp only [Option.bind_some]
  rw [hr]; simp only [Option.bind_some]
  rw [rEnergy_eq hd.sams hl2 (by omega)]; simp only [Option.bind_some]
  rw [wu64 (by omega) (by omega), rLog_eq (by omega) (by omega) hk, if_neg (by omega)]; simp only [Option.bind_some]
  rw [w32 (by unfold ratioV at rr; omega) (by unfold ratioV at rr; omega)]
  exact ⟨r, rfl, hd⟩

/-! how late -/
/-- The first products of a with what stands so much later in b. -/
def fitS (a b : List Int) (d : Int) : Nat → Int
  | 0 => 0
  | n + 1 => fitS a b d n + rd a n * rd b (n + d)
theorem fitS_range {a b : List Int} (ha : Sams a) (hb : Sams b) (d : Int) (n : Nat) : -(1073741824 * n) ≤ fitS a b d n ∧ fitS a b d n ≤ 1073741824 * n := by
  induction n with
  | zero => simp [fitS]
  | succ n ih =>
    simp only [fitS]
    have v := ha.el (n : Int)
    have u := hb.el ((n : Int) + d)
    have := prod_range v.1 v.2 u.1 u.2
    omega
/-- How many products there are. -/
def terms (a b : List Int) (d : Int) : Nat := (min (a.length : Int) ((b.length : Int) - d)).toNat
def fitV (a b : List Int) (d : Int) : Int := fitS a b d (terms a b d)
theorem fit_l0 {a b : List Int} (ha : Sams a) (hb : Sams b) (hl : a.length ≤ 4096) (hl2 : b.length ≤ 4096) {late : Int} (h0 : 0 ≤ late) (h1 : late ≤ 4096) (d : Nat) : ∀ (k : Nat) (i : Nat), i ≤ terms a b late → terms a b late - i = d → d < k → meter_fit.l0 k a b late (fitS a b late i) (i : Int) = some (fitV a b late) := by
  have ht : terms a b late = (min (a.length : Int) ((b.length : Int) - late)).toNat := rfl
  induction d with
  | zero =>
    intro k i i1 hd hk
    obtain ⟨k, rfl⟩ : ∃ m, k = m + 1 := ⟨k - 1, by omega⟩
    obtain rfl : i = terms a b late := by omega
    simp only [meter_fit.l0]
    by_cases g : ((terms a b late : Nat) : Int) < (a.length : Int)
    · rw [if_pos g, w64 (by omega) (by omega), if_neg (by omega)]; rfl
    · rw [if_neg g]; rfl
  | succ d ih =>
    intro k i i1 hd hk
    obtain ⟨k, rfl⟩ : ∃ m, k = m + 1 := ⟨k - 1, by omega⟩
    have v := ha.el (i : Int)
    have u := hb.el ((i : Int) + late)
    have p := prod_range v.1 v.2 u.1 u.2
    have r := fitS_range ha hb late i
    simp only [meter_fit.l0]
    rw [if_pos (by omega), w64 (a := (i : Int) + late) (by omega) (by omega), if_pos (by omega), if_pos (by omega), if_pos (by omega), w64 (a := rd a i) (by omega) (by omega), w64 (a := rd b _) (by omega) (by omega), w64 (a := rd a i * _) (by omega) (by omega), w64 (by omega) (by omega), w64 (by omega) (by omega)]
    exact ih k (i + 1) (by omega) (by omega) (by omega)
theorem fit_eq {a b : List Int} (ha : Sams a) (hb : Sams b) (hl : a.length ≤ 4096) (hl2 : b.length ≤ 4096) {late : Int} (h0 : 0 ≤ late) (h1 : late ≤ 4096) {k : Nat} (hk : a.length < k) : meter_fit.f k a b late = some (fitV a b late) := by
  unfold meter_fit.f
  have ht : terms a b late = (min (a.length : Int) ((b.length : Int) - late)).toNat := rfl
  exact fit_l0 ha hb hl hl2 h0 h1 (terms a b late) k 0 (by omega) (by omega) (by omega)
theorem rFit_l0 {a b : List Int} (ha : Sams a) (hb : Sams b) (hl : a.length ≤ 4096) (hl2 : b.length ≤ 4096) {late : Int} (h0 : 0 ≤ late) (h1 : late ≤ 4096) (d : Nat) : ∀ (k : Nat) (j : Nat), (b.length : Int) - late - j ≤ d → d < k → psalteryref31_Fit.l0 k a b late (fitS a b late (min j (terms a b late))) (late + j) = some (fitV a b late) := by
  have ht : terms a b late = (min (a.length : Int) ((b.length : Int) - late)).toNat := rfl
  induction d with
  | zero =>
    intro k j hd hk
    obtain ⟨k, rfl⟩ : ∃ m, k = m + 1 := ⟨k - 1, by omega⟩
    simp only [psalteryref31_Fit.l0]
    rw [if_neg (by omega), show min j (terms a b late) = terms a b late by omega]; rfl
  | succ d ih =>
    intro k j hd hk
    obtain ⟨k, rfl⟩ : ∃ m, k = m + 1 := ⟨k - 1, by omega⟩
    simp only [psalteryref31_Fit.l0]
    by_cases g : late + (j : Int) < (b.length : Int)
    · have next := ih k (j + 1) (by omega) (by omega)
      rw [if_pos g, w64 (a := late + (j : Int) - late) (by omega) (by omega), w64 (a := late + (j : Int) + 1) (by omega) (by omega), show late + (j : Int) - late = j by omega, show late + (j : Int) + 1 = late + ((j + 1 : Nat) : Int) by omega]
      by_cases c : (j : Int) < (a.length : Int)
      · have v := ha.el (j : Int)
        have u := hb.el ((j : Int) + late)
        have p := prod_range u.1 u.2 v.1 v.2
        have r := fitS_range ha hb late j
        rw [show min (j + 1) (terms a b late) = j + 1 by omega] at next
        simp only [fitS] at next
        rw [if_pos c, if_pos (by omega), if_pos (by omega), show min j (terms a b late) = j by omega, show late + (j : Int) = (j : Int) + late by omega, w64 (a := rd b _) (by omega) (by omega), w64 (a := rd a j) (by omega) (by omega), w64 (a := rd b _ * _) (by omega) (by omega), w64 (by omega) (by omega), Int.mul_comm (rd b _)]
        exact next
      · rw [show min (j + 1) (terms a b late) = min j (terms a b late) by omega] at next
        rw [if_neg c]; exact next
    · rw [if_neg g, show min j (terms a b late) = terms a b late by omega]; rfl
theorem rFit_eq {a b : List Int} (ha : Sams a) (hb : Sams b) (hl : a.length ≤ 4096) (hl2 : b.length ≤ 4096) {late : Int} (h0 : 0 ≤ late) (h1 : late ≤ 4096) {k : Nat} (hk : b.length < k) : psalteryref31_Fit.f k a b late = some (fitV a b late) := by
  unfold psalteryref31_Fit.f
  have := rFit_l0 ha hb hl hl2 h0 h1 b.length k 0 (by omega) hk
  rw [show min 0 (terms a b late) = 0 by omega, show late + ((0 : Nat) : Int) = late by omega] at this
  exact this
/-- The first d up to n whose fit is greatest. -/
def bestD (a b : List Int) : Nat → Int
  | 0 => 0
  | n + 1 => if fitV a b (n + 1) > fitV a b (bestD a b n) then n + 1 else bestD a b n
theorem bestD_range (a b : List Int) (n : Nat) : 0 ≤ bestD a b n ∧ bestD a b n ≤ n := by
  induction n with
  | zero => simp [bestD]
  | succ n ih => simp only [bestD]; split <;> omega
theorem fitV_range {a b : List Int} (ha : Sams a) (hb : Sams b) (hl : a.length ≤ 4096) (d : Int) : -4398046511104 ≤ fitV a b d ∧ fitV a b d ≤ 4398046511104 := by
  have r := fitS_range ha hb d (terms a b d)
  have ht : terms a b d = (min (a.length : Int) ((b.length : Int) - d)).toNat := rfl
  unfold fitV; omega
theorem Delay_l0 {a b : List Int} (ha : Sams a) (hb : Sams b) (hl : a.length ≤ 4096) (hl2 : b.length ≤ 4096) {most : Int} (h0 : 0 ≤ most) (h1 : most ≤ 4096) (d : Nat) : ∀ (k : Nat) (i : Nat), i ≤ most → most - i = d → d + a.length + 1 < k →
    meter_Delay.l0 k a b (bestD a b i) (fitV a b (bestD a b i)) (most + 1) ((i : Int) + 1) = some (bestD a b most.toNat, 0) := by
  induction d with
  | zero =>
    intro k i i1 hd hk
    obtain ⟨k, rfl⟩ : ∃ m, k = m + 1 := ⟨k - 1, by omega⟩
    simp only [meter_Delay.l0]
    rw [if_neg (by omega)]
    obtain rfl : i = most.toNat := by omega
    rfl
  | succ d ih =>
    intro k i i1 hd hk
    obtain ⟨k, rfl⟩ : ∃ m, k = m + 1 := ⟨k - 1, by omega⟩
    have next := ih k (i + 1) (by omega) (by omega) (by omega)
    simp only [bestD] at next
    simp only [meter_Delay.l0]
    rw [if_pos (by omega), fit_eq ha hb hl hl2 (by omega) (by omega) (by omega)]; simp only [Option.bind_some]
    rw [w64 (by omega) (by omega)]
    rw [show (((i + 1 : Nat)) : Int) = (i : Int) + 1 by omega] at next
    split
    · rename_i g; rw [if_pos g] at next; exact next
    · rename_i g; rw [if_neg g] at next; exact next
theorem Delay_eq {a b : List Int} (ha : Sams a) (hb : Sams b) {most : Int} {k : Nat} (hk : 4200 ≤ k ∨ (a.length ≤ 200 ∧ most ≤ 200 ∧ 500 ≤ k)) (hk2 : a.length ≤ 4096 → most ≤ 4096 → a.length + most + 3 < k) :
    meter_Delay.f k a b most = some (if most < 0 then (0, 1) else if a.length > 4096 ∨ b.length > 4096 ∨ most > 4096 then (0, 2) else (bestD a b most.toNat, 0)) := by
  unfold meter_Delay.f
  by_cases c0 : most < 0
  · rw [if_pos c0, if_pos c0]
  · rw [if_neg c0, if_neg c0]
    by_cases c1 : (a.length : Int) > 4096
    · rw [if_pos c1, if_pos (by omega)]
    · rw [if_neg c1]
      by_cases c2 : (b.length : Int) > 4096
      · rw [if_pos c2, if_pos (by omega)]
      · rw [if_neg c2]
        by_cases c3 : most > 4096
        · rw [if_pos c3, if_pos (by omega)]
        · have hk2' := hk2 (by omega) (by omega)
          rw [if_neg c3, if_neg (by omega), w64 (by omega) (by omega)]
          obtain ⟨k, rfl⟩ : ∃ m, k = m + 1 := ⟨k - 1, by omega⟩
          have fr := fitV_range ha hb (by omega) 0
          simp only [meter_Delay.l0]
          rw [if_pos (by omega), fit_eq ha hb (by omega) (by omega) (by decide) (by decide) (by omega)]; simp only [Option.bind_some]
          rw [if_pos (by omega), show wrap64 (0 + 1) = 1 by decide +kernel]
          have := Delay_l0 ha hb (by omega) (by omega) (show 0 ≤ most by omega) (by omega) most.toNat k 0 (by omega) (by omega) (by omega)
          exact this
theorem rDelay_l0 {a b : List Int} (ha : Sams a) (hb : Sams b) (hl : a.length ≤ 4096) (hl2 : b.length ≤ 4096) {most : Int} (h0 : 0 ≤ most) (h1 : most ≤ 4096) (d : Nat) : ∀ (k : Nat) (i : Nat), i ≤ most → most - i = d → d + b.length + 1 < k →
    psalteryref31_Delay.l0 k a b most (bestD a b i) ((i : Int) + 1) = some (bestD a b most.toNat, 0) := by
  induction d with
  | zero =>
    intro k i i1 hd hk
    obtain ⟨k, rfl⟩ : ∃ m, k = m + 1 := ⟨k - 1, by omega⟩
    simp only [psalteryref31_Delay.l0]
    rw [if_neg (by omega)]
    obtain rfl : i = most.toNat := by omega
    rfl
  | succ d ih =>
    intro k i i1 hd hk
    obtain ⟨k, rfl⟩ : ∃ m, k = m + 1 := ⟨k - 1, by omega⟩
    have next := ih k (i + 1) (by omega) (by omega) (by omega)
    have br := bestD_range a b i
    simp only [bestD] at next
    simp only [psalteryref31_Delay.l0]
    rw [if_pos (by omega), rFit_eq ha hb hl hl2 (by omega) (by omega) (by omega), rFit_eq ha hb hl hl2 br.1 (by omega) (by omega)]; simp only [Option.bind_some]
    rw [w64 (by omega) (by omega)]
    rw [show (((i + 1 : Nat)) : Int) = (i : Int) + 1 by omega] at next
    split
    · rename_i g; rw [if_pos g] at next; exact next
    · rename_i g; rw [if_neg g] at next; exact next
theorem rDelay_eq {a b : List Int} (ha : Sams a) (hb : Sams b) {most : Int} {k : Nat} (hk : 3 ≤ k) (hk2 : b.length ≤ 4096 → most ≤ 4096 → b.length + most + 3 < k) :
    psalteryref31_Delay.f k a b most = some (if most < 0 then (0, 1) else if a.length > 4096 ∨ b.length > 4096 ∨ most > 4096 then (0, 2) else (bestD a b most.toNat, 0)) := by
  obtain ⟨k, rfl⟩ : ∃ m, k = m + 1 := ⟨k - 1, by omega⟩
  unfold psalteryref31_Delay.f
  by_cases c0 : most < 0
  · rw [if_pos c0, if_pos c0]
  · rw [if_neg c0, if_neg c0]
    simp only [psalteryref31_Delay.j0, if_true]
    by_cases c1 : (a.length : Int) > 4096
    · rw [if_pos c1, if_pos (by omega)]
    · rw [if_neg c1]
      by_cases c2 : (b.length : Int) > 4096
      · rw [if_pos c2, if_pos (by omega)]
      · rw [if_neg c2]
        by_cases c3 : most > 4096
        · rw [decide_eq_true c3, if_pos rfl, if_pos (by omega)]
        · have hk2' := hk2 (by omega) (by omega)
          rw [decide_eq_false c3, if_neg Bool.false_ne_true, if_neg (by omega)]
          exact rDelay_l0 ha hb (by omega) (by omega) (show 0 ≤ most by omega) (by omega) most.toNat k 0 (by omega) (by omega) (by omega)
end Go.Proofs.Ytfipchhpnnjkeaa.MeterLib
