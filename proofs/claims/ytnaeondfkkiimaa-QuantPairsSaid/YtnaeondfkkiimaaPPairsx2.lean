/- Quant: pairs of two planes, walked. -/
import Derived.Test.YtnaeondfkkiimaaPPairsx2b
import Derived.Test.YtnaeondfkkiimaaPPairsx2c
import Derived.Test.YtnaeondfkkiimaaRowAt
import Derived.StillTailTactics
import Derived.Deep.RegionHeld3
import Derived.Deep.AppendLies
import Derived.Deep.DeepCutAuto
import Derived.Deep.CutBlock
import Derived.Deep.DrawnRows
import Derived.Deep.RegionLaw
namespace Go.Proofs.Ytnaeondfkkiimaa.PPairs
open Go.RowKit Go.Proofs.YtnaeondfkkiimaaW.PrintWords Go.Proofs.YtnaeondfkkiimaaW.PrintLast Go.Proofs.YtnaeondfkkiimaaW.PrintMore Go.Proofs.Ytnaeondfkkiimaa.RowAt
attribute [local go_sem ↓] Go.wp_at_zero Go.wp_at_succ
attribute [local go_sem] max2_int min2_int max_two min_two max_three min_three max_four min_four   -- for this text's walks alone
set_option linter.unusedVariables false
set_option linter.unusedSimpArgs false
section
open Classical in
noncomputable def ownerOf (n : Nat) (va : Nat → Value) (k : Nat) : Nat := if h : ∃ j, j < n ∧ (va j).ownBlock = some k then Classical.choose h else 0
theorem ownerOf_eq {n : Nat} {va : Nat → Value} (hd : ∀ j j', j < n → j' < n → j ≠ j' → Apart (va j) (va j')) {j k : Nat} (hj : j < n) (hk : (va j).ownBlock = some k) : ownerOf n va k = j := by
  have h : ∃ j, j < n ∧ (va j).ownBlock = some k := ⟨j, hj, hk⟩
  unfold ownerOf
  rw [dif_pos h]
  have hs := Classical.choose_spec h
  refine Classical.byContradiction fun hne => ?_
  exact hd _ _ hs.1 hj hne k hs.2 hk
theorem own_plane {w wx : World} {X n : Nat} {va : Nat → Value} (hb : w.heap.size ≤ X) (h : wx.heap[X]? = some (.cells ((List.range n).map va).toArray 55 (0, 0))) (hn : n ≤ maxLen) : wx.ownsRow w.heap.size 55 1 (.slice (some ⟨X, 0, none⟩) n n) n ((List.range n).map va) :=
  ⟨by simp, .inr ⟨X, n, _, rfl, hb, h, Nat.le_refl _, hn, by simp, by simp; rw [List.take_of_length_le (by simp)]⟩⟩
theorem S_of_rows {w wx : World} {X n : Nat} {va : Nat → Value} {ra : Nat → List Int} {ok : Nat → Prop} (hb : w.heap.size ≤ X) (hX : wx.heap[X]? = some (.cells ((List.range n).map va).toArray 55 (0, 0))) (hn : n ≤ maxLen)
    (ho : ∀ j, j < n → wx.ownsRow w.heap.size 21 1 (va j) (ra j).length (nums .i32 (ra j))) (hd : ∀ j j', j < n → j' < n → j ≠ j' → Apart (va j) (va j')) (hokX : ok X) (hok : ∀ j k, j < n → (va j).ownBlock = some k → ok k) :
    Kd.S (Kd.slice 21 (Kd.int .i32)) 55 wx w.heap.size ok (.slice (some ⟨X, 0, none⟩) n n) ((List.range n).map ra) := by
  refine ⟨ownerOf n va, fun k hk => ?_, (List.range n).map va, ?_, ?_, fun j p hp => ?_⟩
  · have : X = k := by simpa [Value.ownBlock] using hk
    subst this; exact hokX
  · have e : ((List.range n).map ra).zipIdx.length = n := by simp
    rw [e]; exact own_plane hb hX hn
  · simp [Kd.tag, Kd.slice]
  · have hj : j < n := by have := (List.getElem?_eq_some_iff.1 hp).1; simpa using this
    have hpe : p = (ra j, j) := by
      rw [List.getElem?_zipIdx] at hp
      simp [hj] at hp
      exact hp.symm
    subst hpe
    have hc : (((List.range n).map va).drop (j * 1)).take 1 = [va j] := by
      rw [Nat.mul_one]
      apply List.ext_getElem?
      intro i
      rw [List.getElem?_take, List.getElem?_drop]
      by_cases e : i = 0
      · subst e; simp [hj]
      · rw [if_neg (by omega), List.getElem?_eq_none (by simp; omega)]
    show (Kd.slice 21 (Kd.int .i32)).M wx w.heap.size _ (ra j) ((((List.range n).map va).drop (j * 1)).take 1)
    rw [hc]
    refine ⟨va j, rfl, Kd.R_of_own (enc := Value.int .i32) (h1 := fun _ => rfl) (ho j hj) fun k hk => ?_⟩
    refine ⟨⟨hok j k hj hk, ?_⟩, ownerOf_eq hd hj hk⟩
    have hne := own_ne (ho j hj) hX (by decide)
    rw [hk] at hne
    intro e
    apply hne
    have : k = X := by simpa [Value.ownBlock] using e
    rw [this]
theorem PQ.S_a {w wx : World} {X Y n : Nat} {va vb : Nat → Value} {ra rb : Nat → List Int} (h : PQ w X Y n va vb va vb ra rb wx) (hn : n ≤ maxLen) : Kd.S (Kd.slice 21 (Kd.int .i32)) 55 wx w.heap.size (fun k_ => some k_ ≠ (Value.slice (some ⟨Y, 0, none⟩) n n).ownBlock) (.slice (some ⟨X, 0, none⟩) n n) ((List.range n).map ra) :=
  S_of_rows h.xb h.xa hn h.oa h.da (fun e => h.xy (by simpa [Value.ownBlock] using e)) (fun j k hj hk e => by
    have hne := own_ne (h.oa j hj) h.ya (by decide)
    rw [hk] at hne
    exact hne (by simpa [Value.ownBlock] using e.symm))
theorem PQ.S_b {w wx : World} {X Y n : Nat} {va vb : Nat → Value} {ra rb : Nat → List Int} (h : PQ w X Y n va vb va vb ra rb wx) (hn : n ≤ maxLen) : Kd.S (Kd.slice 21 (Kd.int .i32)) 55 wx w.heap.size (fun k_ => some k_ ≠ (Value.slice (some ⟨X, 0, none⟩) n n).ownBlock) (.slice (some ⟨Y, 0, none⟩) n n) ((List.range n).map rb) :=
  S_of_rows h.yb h.ya hn h.ob h.db (fun e => h.xy (by simpa [Value.ownBlock] using e.symm)) (fun j k hj hk e => by
    have hne := own_ne (h.ob j hj) h.xa (by decide)
    rw [hk] at hne
    exact hne (by simpa [Value.ownBlock] using e.symm))
end
set_option maxHeartbeats 8000000 in
set_option maxRecDepth 100000 in
theorem pairs_badM (A0 : Option Addr) (c0 : Nat) (l : List (List Int)) (A1 : Option Addr) (c1 : Nat) (r : List (List Int)) (w : World) (hr0 : Kd.C (Kd.slice 21 (Kd.int .i32)) w A0 l.length l) (hc0 : l.length ≤ c0) (hr1 : Kd.C (Kd.slice 21 (Kd.int .i32)) w A1 r.length r) (hc1 : r.length ≤ c1)
    (b c : Int) (hbl : quant_bands.f 1000 l = some b) (hbr : quant_bands.f 1000 r = some c) (hbad : b = 0 ∨ b ≠ c ∨ l.length ≠ r.length) :
    Calls Try.prog 71 #[.slice A0 l.length c0, .slice A1 r.length c1, .func (.func 72) #[] #[]] w fun e w' => e = .returned (.tuple #[.slice none 0 0, .slice none 0 0, .int .i64 1]) ∧ Below w.heap.size w w' := by
  have HR0 := Aside0.mk hr0
  have HR1 := Aside0.mk hr1
  have HC0 := Aside0.mk hc0
  have HC1 := Aside0.mk hc1
  have HBL := Aside0.mk hbl
  have HBR := Aside0.mk hbr
  have hcs : (b == 0) = true ∨ ((b == 0) = false ∧ (b != c) = true) ∨ ((b == 0) = false ∧ (b != c) = false ∧ ((l.length : Int) != (r.length : Int)) = true) := by
    by_cases h0 : b = 0
    · exact .inl (by simp [h0])
    · by_cases h1 : b = c
      · refine .inr (.inr ⟨by simp [h0], by simp [h1], ?_⟩)
        have h2 : l.length ≠ r.length := by rcases hbad with h | h | h; exact absurd h h0; exact absurd h1 h; exact h
        have h3 : (l.length : Int) ≠ (r.length : Int) := by omega
        simpa using h3
      · exact .inr (.inl ⟨by simp [h0], by simpa using h1⟩)
  clear hr0 hc0 hr1 hc1 hbl hbr hbad
  rcases hcs with h0 | ⟨h0, h1⟩ | ⟨h0, h1, h2⟩
  all_goals
    go_enter Try.func71, Try.ntmps71
    have HB := Aside0.mk (Below.refl w.heap.size w)
    go_wp2_with (first | (go_at_call 70; (first | (with_reducible refine (quant_bands.calls 1000 A0 c0 l b _ (Kd.C_below HR0.out HB.out) HC0.out HBL.out).mono ?_) | (with_reducible refine (quant_bands.calls 1000 A1 c1 r c _ (Kd.C_below HR1.out HB.out) HC1.out HBR.out).mono ?_)); rintro e w1 ⟨rfl, hd_⟩; obtain ⟨q8, hq8⟩ := hd_; have n_ := Aside0.mk (show Below w.heap.size w w1 from (by rw [hq8]; exact pw_below_drewN HB.out _)); clear HB hq8; have HB := n_; clear n_))
    exact bodyPost_ret (v := .tuple #[.slice none 0 0, .slice none 0 0, .int .i64 1]) (by simp [results, Try.results71, go_sem]) rfl ⟨rfl, HB.out⟩
set_option maxHeartbeats 8000000 in
set_option maxRecDepth 100000 in
theorem pairs_badS (A0 : Option Addr) (c0 : Nat) (l : List (List Int)) (A1 : Option Addr) (c1 : Nat) (r : List (List Int)) (w : World) (hr0 : Kd.C (Kd.slice 21 (Kd.int .i32)) w A0 l.length l) (hc0 : l.length ≤ c0) (hr1 : Kd.C (Kd.slice 21 (Kd.int .i32)) w A1 r.length r) (hc1 : r.length ≤ c1)
    (b c : Int) (hbl : quant_bands.f 1000 l = some b) (hbr : quant_bands.f 1000 r = some c) (hbad : b = 0 ∨ b ≠ c ∨ l.length ≠ r.length) :
    Calls Try.prog 71 #[.slice A0 l.length c0, .slice A1 r.length c1, .func (.func 73) #[] #[]] w fun e w' => e = .returned (.tuple #[.slice none 0 0, .slice none 0 0, .int .i64 1]) ∧ Below w.heap.size w w' := by
  have HR0 := Aside0.mk hr0
  have HR1 := Aside0.mk hr1
  have HC0 := Aside0.mk hc0
  have HC1 := Aside0.mk hc1
  have HBL := Aside0.mk hbl
  have HBR := Aside0.mk hbr
  have hcs : (b == 0) = true ∨ ((b == 0) = false ∧ (b != c) = true) ∨ ((b == 0) = false ∧ (b != c) = false ∧ ((l.length : Int) != (r.length : Int)) = true) := by
    by_cases h0 : b = 0
    · exact .inl (by simp [h0])
    · by_cases h1 : b = c
      · refine .inr (.inr ⟨by simp [h0], by simp [h1], ?_⟩)
        have h2 : l.length ≠ r.length := by rcases hbad with h | h | h; exact absurd h h0; exact absurd h1 h; exact h
        have h3 : (l.length : Int) ≠ (r.length : Int) := by omega
        simpa using h3
      · exact .inr (.inl ⟨by simp [h0], by simpa using h1⟩)
  clear hr0 hc0 hr1 hc1 hbl hbr hbad
  rcases hcs with h0 | ⟨h0, h1⟩ | ⟨h0, h1, h2⟩
  all_goals
    go_enter Try.func71, Try.ntmps71
    have HB := Aside0.mk (Below.refl w.heap.size w)
    go_wp2_with (first | (go_at_call 70; (first | (with_reducible refine (quant_bands.calls 1000 A0 c0 l b _ (Kd.C_below HR0.out HB.out) HC0.out HBL.out).mono ?_) | (with_reducible refine (quant_bands.calls 1000 A1 c1 r c _ (Kd.C_below HR1.out HB.out) HC1.out HBR.out).mono ?_)); rintro e w1 ⟨rfl, hd_⟩; obtain ⟨q8, hq8⟩ := hd_; have n_ := Aside0.mk (show Below w.heap.size w w1 from (by rw [hq8]; exact pw_below_drewN HB.out _)); clear HB hq8; have HB := n_; clear n_))
    exact bodyPost_ret (v := .tuple #[.slice none 0 0, .slice none 0 0, .int .i64 1]) (by simp [results, Try.results71, go_sem]) rfl ⟨rfl, HB.out⟩
def fitB (l r : List (List Int)) : Bool := decide (l.length ≤ 1000) && decide (0 < l.length) && (List.range l.length).all fun i => decide ((r.getD i []).length = (l.getD i []).length) && decide ((l.getD i []).length ≤ 1000)
theorem fitB_of {l r : List (List Int)} (h : fitB l r = true) : l.length ≤ 1000 ∧ 0 < l.length ∧ ∀ i, i < l.length → (r.getD i []).length = (l.getD i []).length ∧ (l.getD i []).length ≤ 1000 := by
  unfold fitB at h
  rw [Bool.and_eq_true, Bool.and_eq_true, decide_eq_true_eq, decide_eq_true_eq, List.all_eq_true] at h
  refine ⟨h.1.1, h.1.2, fun i hi => ?_⟩
  have h2 := h.2 i (List.mem_range.2 hi)
  rwa [Bool.and_eq_true, decide_eq_true_eq, decide_eq_true_eq] at h2
def gM (a b : Int) : Int := wrap32 ((wrap64 ((wrap64 (a)) + (wrap64 (b)))) / 2)
def hM (a b : Int) : Int := wrap32 ((wrap64 ((wrap64 (a)) - (wrap64 (b)))) / 2)
theorem clo_M (a b : Int) : quant_Middle_clo1.f a b = some (gM a b, hM a b) := rfl
def gS (a b : Int) : Int := ((quant_Sides_clo1.f a b).getD (0, 0)).1
def hS (a b : Int) : Int := ((quant_Sides_clo1.f a b).getD (0, 0)).2
theorem clo_S (a b : Int) : quant_Sides_clo1.f a b = some (gS a b, hS a b) := by
  have h : ∃ p, quant_Sides_clo1.f a b = some p := by
    have hin : ∀ x lo hi, ∃ v, fix_within_int64.f x lo hi = some v := fun x lo hi => by
      unfold fix_within_int64.f
      repeat' split
      all_goals exact ⟨_, rfl⟩
    obtain ⟨v1, h1⟩ := hin (wrap64 (wrap64 a + wrap64 b)) (-2147483648) 2147483647
    obtain ⟨v2, h2⟩ := hin (wrap64 (wrap64 a - wrap64 b)) (-2147483648) 2147483647
    unfold quant_Sides_clo1.f fix_Add.f fix_Sub.f fix_Sat32.f
    rw [h1, h2]
    exact ⟨_, rfl⟩
  obtain ⟨p, hp⟩ := h
  unfold gS hS
  rw [hp]; rfl
def quant_Middle.f (l0 : List (List Int)) (l1 : List (List Int)) : Option ((List (List Int)) × (List (List Int)) × Int) :=
  (quant_bands.f 1000 l0).bind fun b => (quant_bands.f 1000 l1).bind fun c => if b = 0 ∨ b ≠ c ∨ l0.length ≠ l1.length then some ([], [], 1) else if fitB l0 l1 = true then some (mapP gM l0 l1, mapP hM l0 l1, 0) else none
set_option maxHeartbeats 8000000 in
set_option maxRecDepth 100000 in
theorem quant_Middle.calls (A0 : Option Addr) (c0 : Nat) (l0 : List (List Int)) (A1 : Option Addr) (c1 : Nat) (l1 : List (List Int)) (r1 : List (List Int)) (r2 : List (List Int)) (r3 : Int) (w : World) (hr0 : Kd.C (Kd.slice 21 (Kd.int .i32)) w A0 l0.length l0) (hc0 : l0.length ≤ c0) (hr1 : Kd.C (Kd.slice 21 (Kd.int .i32)) w A1 l1.length l1) (hc1 : l1.length ≤ c1) (h : quant_Middle.f l0 l1 = some (r1, r2, r3)) :
    Calls Try.prog 46 #[.slice A0 l0.length c0, .slice A1 l1.length c1] w fun e w' => ∃ v0_ v1_ : Value, e = .returned (.tuple #[v0_, v1_, .int .i64 r3]) ∧ Kd.S (Kd.slice 21 (Kd.int .i32)) 55 w' w.heap.size (fun k_ => some k_ ≠ (v1_ : Value).ownBlock) v0_ r1 ∧ Kd.S (Kd.slice 21 (Kd.int .i32)) 55 w' w.heap.size (fun k_ => some k_ ≠ (v0_ : Value).ownBlock) v1_ r2 ∧ Below w.heap.size w w' := by
  obtain ⟨b, hb, h⟩ := Option.bind_eq_some_iff.1 h
  obtain ⟨c, hc, h⟩ := Option.bind_eq_some_iff.1 h
  by_cases hbad : b = 0 ∨ b ≠ c ∨ l0.length ≠ l1.length
  · rw [if_pos hbad] at h
    obtain ⟨rfl, rfl, rfl⟩ : ([] : List (List Int)) = r1 ∧ ([] : List (List Int)) = r2 ∧ (1 : Int) = r3 := by simpa using h
    have HP := Aside0.mk (pairs_badM A0 c0 l0 A1 c1 l1 w hr0 hc0 hr1 hc1 b c hb hc hbad)
    clear h hb hc hbad hr0 hc0 hr1 hc1
    go_enter Try.func46, Try.ntmps46
    go_wp2_with (first | (go_at_call 71; refine HP.out.mono ?_; rintro e w1 ⟨rfl, hb_⟩; have HB := Aside0.mk hb_; clear hb_))
    exact bodyPost_ret (v := .tuple #[.slice none 0 0, .slice none 0 0, .int .i64 1]) (by simp [results, Try.results46, go_sem]) rfl ⟨_, _, rfl, Kd.S_nil _ _ _ _ _, Kd.S_nil _ _ _ _ _, HB.out⟩
  · rw [if_neg hbad] at h
    by_cases hf : fitB l0 l1 = true
    · rw [if_pos hf] at h
      obtain ⟨rfl, rfl, rfl⟩ : mapP gM l0 l1 = r1 ∧ mapP hM l0 l1 = r2 ∧ (0 : Int) = r3 := by simpa using h
      have hff := fitB_of hf
      have h0 : b ≠ 0 := fun e => hbad (.inl e)
      have h1 : b = c := Classical.byContradiction fun e => hbad (.inr (.inl e))
      have h2 : l1.length = l0.length := Classical.byContradiction fun e => hbad (.inr (.inr (fun e2 => e e2.symm)))
      subst h1
      have HP := Aside0.mk (pairs_middle A0 c0 l0 A1 c1 l1 w hr0 hc0 hr1 hc1 b h0 hb hc h2 hff.1 hff.2.1 hff.2.2 gM hM (fun i k _ _ => clo_M _ _))
      have HN := Aside0.mk hff.1
      clear h hb hc hbad hr0 hc0 hr1 hc1 hff h0 h2 hf
      go_enter Try.func46, Try.ntmps46
      go_wp2_with (first | (go_at_call 71; refine HP.out.mono ?_; rintro e w1 ⟨X, Y, va, vb, rfl, hq_⟩; have HQ := Aside0.mk hq_; clear hq_))
      exact bodyPost_ret (v := .tuple #[.slice (some ⟨X, 0, none⟩) l0.length l0.length, .slice (some ⟨Y, 0, none⟩) l0.length l0.length, .int .i64 0]) (by simp [results, Try.results46, go_sem]) rfl ⟨_, _, rfl, HQ.out.S_a (Nat.le_trans HN.out (by unfold maxLen; decide)), HQ.out.S_b (Nat.le_trans HN.out (by unfold maxLen; decide)), HQ.out.be⟩
    · rw [if_neg hf] at h; cases h
def quant_Sides.f (l0 : List (List Int)) (l1 : List (List Int)) : Option ((List (List Int)) × (List (List Int)) × Int) :=
  (quant_bands.f 1000 l0).bind fun b => (quant_bands.f 1000 l1).bind fun c => if b = 0 ∨ b ≠ c ∨ l0.length ≠ l1.length then some ([], [], 1) else if fitB l0 l1 = true then some (mapP gS l0 l1, mapP hS l0 l1, 0) else none
set_option maxHeartbeats 8000000 in
set_option maxRecDepth 100000 in
theorem quant_Sides.calls (A0 : Option Addr) (c0 : Nat) (l0 : List (List Int)) (A1 : Option Addr) (c1 : Nat) (l1 : List (List Int)) (r1 : List (List Int)) (r2 : List (List Int)) (r3 : Int) (w : World) (hr0 : Kd.C (Kd.slice 21 (Kd.int .i32)) w A0 l0.length l0) (hc0 : l0.length ≤ c0) (hr1 : Kd.C (Kd.slice 21 (Kd.int .i32)) w A1 l1.length l1) (hc1 : l1.length ≤ c1) (h : quant_Sides.f l0 l1 = some (r1, r2, r3)) :
    Calls Try.prog 47 #[.slice A0 l0.length c0, .slice A1 l1.length c1] w fun e w' => ∃ v0_ v1_ : Value, e = .returned (.tuple #[v0_, v1_, .int .i64 r3]) ∧ Kd.S (Kd.slice 21 (Kd.int .i32)) 55 w' w.heap.size (fun k_ => some k_ ≠ (v1_ : Value).ownBlock) v0_ r1 ∧ Kd.S (Kd.slice 21 (Kd.int .i32)) 55 w' w.heap.size (fun k_ => some k_ ≠ (v0_ : Value).ownBlock) v1_ r2 ∧ Below w.heap.size w w' := by
  obtain ⟨b, hb, h⟩ := Option.bind_eq_some_iff.1 h
  obtain ⟨c, hc, h⟩ := Option.bind_eq_some_iff.1 h
  by_cases hbad : b = 0 ∨ b ≠ c ∨ l0.length ≠ l1.length
  · rw [if_pos hbad] at h
    obtain ⟨rfl, rfl, rfl⟩ : ([] : List (List Int)) = r1 ∧ ([] : List (List Int)) = r2 ∧ (1 : Int) = r3 := by simpa using h
    have HP := Aside0.mk (pairs_badS A0 c0 l0 A1 c1 l1 w hr0 hc0 hr1 hc1 b c hb hc hbad)
    clear h hb hc hbad hr0 hc0 hr1 hc1
    go_enter Try.func47, Try.ntmps47
    go_wp2_with (first | (go_at_call 71; refine HP.out.mono ?_; rintro e w1 ⟨rfl, hb_⟩; have HB := Aside0.mk hb_; clear hb_))
    exact bodyPost_ret (v := .tuple #[.slice none 0 0, .slice none 0 0, .int .i64 1]) (by simp [results, Try.results47, go_sem]) rfl ⟨_, _, rfl, Kd.S_nil _ _ _ _ _, Kd.S_nil _ _ _ _ _, HB.out⟩
  · rw [if_neg hbad] at h
    by_cases hf : fitB l0 l1 = true
    · rw [if_pos hf] at h
      obtain ⟨rfl, rfl, rfl⟩ : mapP gS l0 l1 = r1 ∧ mapP hS l0 l1 = r2 ∧ (0 : Int) = r3 := by simpa using h
      have hff := fitB_of hf
      have h0 : b ≠ 0 := fun e => hbad (.inl e)
      have h1 : b = c := Classical.byContradiction fun e => hbad (.inr (.inl e))
      have h2 : l1.length = l0.length := Classical.byContradiction fun e => hbad (.inr (.inr (fun e2 => e e2.symm)))
      subst h1
      have HP := Aside0.mk (pairs_sides A0 c0 l0 A1 c1 l1 w hr0 hc0 hr1 hc1 b h0 hb hc h2 hff.1 hff.2.1 hff.2.2 gS hS (fun i k _ _ => clo_S _ _))
      have HN := Aside0.mk hff.1
      clear h hb hc hbad hr0 hc0 hr1 hc1 hff h0 h2 hf
      go_enter Try.func47, Try.ntmps47
      go_wp2_with (first | (go_at_call 71; refine HP.out.mono ?_; rintro e w1 ⟨X, Y, va, vb, rfl, hq_⟩; have HQ := Aside0.mk hq_; clear hq_))
      exact bodyPost_ret (v := .tuple #[.slice (some ⟨X, 0, none⟩) l0.length l0.length, .slice (some ⟨Y, 0, none⟩) l0.length l0.length, .int .i64 0]) (by simp [results, Try.results47, go_sem]) rfl ⟨_, _, rfl, HQ.out.S_a (Nat.le_trans HN.out (by unfold maxLen; decide)), HQ.out.S_b (Nat.le_trans HN.out (by unfold maxLen; decide)), HQ.out.be⟩
    · rw [if_neg hf] at h; cases h
end Go.Proofs.Ytnaeondfkkiimaa.PPairs
