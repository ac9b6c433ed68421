/- Tns: the nearest part, and the filter that is found. -/
import Derived.Test.YtblehkoonajofaaTnsRun
import Derived.Test.YtblehkoonajofaaFixBaseTns
import Derived.Test.YtblehkoonajofaaLogsBaseTns
namespace Go.Proofs.Ytblehkoonajofaa.PTns
open Go.RowKit Go.Proofs.YtblehkoonajofaaW.PrintWords Go.Proofs.YtblehkoonajofaaW.PrintLast Go.Proofs.YtblehkoonajofaaW.PrintMore Go.Proofs.Ytblehkoonajofaa.RowAt
attribute [local go_sem] max2_int min2_int max_two min_two max_three min_three max_four min_four   -- for this text's walks alone
set_option linter.unusedVariables false
set_option linter.unusedSimpArgs false
/-- How far a number is from a part. -/
def apartV (k : Int) (i : Nat) : Int := mx (k - partV (i : Int)) (-(k - partV (i : Int)))
def nearUpto (k : Int) : Nat → Nat
  | 0 => 0
  | i+1 => if apartV k i < apartV k (nearUpto k i) then i else nearUpto k i
theorem nearUpto_le (k : Int) : ∀ i, i ≤ 17 → nearUpto k i ≤ 16
  | 0, _ => by simp [nearUpto]
  | i+1, h => by simp only [nearUpto]; split; · omega
                 · exact nearUpto_le k i (by omega)
theorem tns_far.calls (b : Nat) (k : Int) (hk : -40000 ≤ k ∧ k ≤ 40000) (i : Nat) (hi : i ≤ 16) (w : World) (h : w.cell? ⟨b, 0, none⟩ = some (.int .i64 k)) :
    Calls Try.prog 92 #[.int .i64 (i : Int), .pointer (some ⟨b, 0, none⟩)] w fun e w' => e = .returned (.int .i64 (apartV k i)) ∧ Below w.heap.size w w' := by
  have hp := part_of (i := (i : Int)) (by omega) (by omega)
  have HAP := Aside0.mk (show apartV k i = mx (k - partV (i : Int)) (-(k - partV (i : Int))) from rfl)
  generalize apartV k i = r at HAP ⊢
  generalize partV (i : Int) = v at hp HAP
  have HP := Aside0.mk hp.1
  obtain ⟨d, hd⟩ : ∃ d, d = k - v := ⟨_, rfl⟩
  rw [← hd] at HAP
  have hvw : IntKind.i64.wrap v = v := by rw [i64_w]; unfold wrap64; omega
  have hdw : IntKind.i64.wrap (k - v) = d := by rw [i64_w]; unfold wrap64; omega
  have hnw : IntKind.i64.wrap (-d) = -d := by rw [i64_w]; unfold wrap64; omega
  have h2 : w.drew.cell? ⟨b, 0, none⟩ = some (.int .i64 k) := h
  have HH := Aside0.mk h2
  clear hd hp hk hi
  go_enter Try.func92, Try.ntmps92
  go_wp2
  go_region_held3 (fun W => W.cell? ⟨b, 0, none⟩ = some (.int .i64 k)) (first | exact h | exact h2 | exact h3)
    (first | (go_at_call 93; refine (tns_part.calls 1000 (i : Int) v _ HP.out).mono ?_; rintro e w3 ⟨rfl, hb_⟩; obtain ⟨q8, hq8⟩ := hb_.out; have HB3 := Aside0.mk (show Below w.heap.size w w3 from (by rw [hq8]; exact pw_below_drewN (below_drew (Below.refl _ _)) _)); have h3 : w3.cell? ⟨b, 0, none⟩ = some (.int .i64 k) := (by rw [hq8]; exact h2); clear hb_ hq8))
  by_cases hlt : d < -d
  · have hr : r = -d := by rw [HAP.out]; unfold mx; rw [if_pos hlt]
    go_wp2
    exact bodyPost_ret (v := .int .i64 (-d)) (by simp [results, Try.results92, go_sem]) rfl ⟨by first | rfl | rw [hr], HB3.out⟩
  · have hr : r = d := by rw [HAP.out]; unfold mx; rw [if_neg hlt]
    go_wp2
    exact bodyPost_ret (v := .int .i64 d) (by simp [results, Try.results92, go_sem]) rfl ⟨by first | rfl | rw [hr], HB3.out⟩
theorem tns_nearest.calls (k : Int) (hk : -40000 ≤ k ∧ k ≤ 40000) (w : World) : Calls Try.prog 68 #[.int .i64 k] w fun e w' => e = .returned (.int .i64 (nearUpto k 17)) ∧ Below w.heap.size w w' := by
  have HBB := Aside0.mk (below_alloc (Below.refl w.heap.size w) (.cells #[.int .i64 k] 2))
  have HBX := Aside0.mk (blk_new w (.cells #[.int .i64 k] 2))
  have HK := Aside0.mk hk
  have HF := Aside0.mk (fun (i : Nat) (hi : i ≤ 16) W (g : W.cell? ⟨w.heap.size, 0, none⟩ = some (.int .i64 k)) => tns_far.calls w.heap.size k hk i hi W g)
  clear hk
  go_enter Try.func68, Try.ntmps68
  go_wp2
  change Code.wp _ _ _ _ (w.alloc (.cells #[.int .i64 k] 2))
  generalize w.alloc (.cells #[.int .i64 k] 2) = w2 at HBB HBX ⊢
  go_loopg [3, 5, 7, 8, 9, 10, 11, 12, 13, 14, 15, 16, 17, 18] 17 (fun kq v3 v5 v7 v8 v9 v10 v11 v12 v13 v14 v15 v16 v17 v18 wx => ∃ i : Nat, v7 = .int .i64 (i : Int) ∧ v3 = .int .i64 (nearUpto k i : Nat) ∧ Aside0 (kq + i = 17) ∧ Aside0 (wx.heap[w.heap.size]? = some (.cells #[.int .i64 k] 2 (0, 0))) ∧ Aside0 (Below w.heap.size w wx))
  case atStart => exact ⟨0, rfl, rfl, ⟨rfl⟩, HBX, HBB⟩
  case round =>
    clear HBX HBB
    obtain ⟨i, rfl, rfl, HG, HX, HB⟩ := hrel
    by_cases hi : i < 17
    · have hi0 : (0 : Int) ≤ i := by omega
      have hi8 : (i : Int) < 17 := by omega
      have hbl := nearUpto_le k i (by omega)
      have HNX := Aside0.mk (show nearUpto k (i + 1) = if apartV k i < apartV k (nearUpto k i) then i else nearUpto k i from rfl)
      generalize nearUpto k i = bb at hbl HNX ⊢
      have HFI := Aside0.mk (HF.out i (by omega))
      have HFB := Aside0.mk (HF.out bb hbl)
      generalize apartV k i = fi at HFI HNX
      generalize apartV k bb = fb at HFB HNX
      have hc := (blk_cell HX.out 0).trans rfl
      obtain ⟨g0, rfl⟩ : ∃ g0, gk = g0 + 1 := ⟨gk - 1, by have := HG.out; omega⟩
      have hwi : IntKind.i64.wrap ((i : Int) + 1) = ((i + 1 : Nat) : Int) := by rw [i64_w]; unfold wrap64; omega
      have HC := Aside0.mk hc
      clear hi hbl hc
      by_cases hlt : fi < fb
      · have HN2 := Aside0.mk (show nearUpto k (i + 1) = i from by rw [HNX.out, if_pos hlt])
        go_wp2_with (first | (go_at_call 92; refine (HFB.out _ HC4.out).mono ?_; rintro e w5 ⟨rfl, hb_⟩; have HX5 := Aside0.mk (box_later HX4.out hb_); have HB5 := Aside0.mk (below_step HB4.out hb_); clear hb_) | (go_at_call 92; refine (HFI.out _ HC.out).mono ?_; rintro e w4 ⟨rfl, hb_⟩; have HX4 := Aside0.mk (box_later HX.out hb_); have HB4 := Aside0.mk (below_step HB.out hb_); have HC4 := Aside0.mk ((blk_cell HX4.out 0).trans (rfl : _ = some (Value.int .i64 k))); clear hb_))
        go_roundg g0
        case measure => omega
        case rel => exact ⟨i + 1, by first | rfl | (congr 1; push_cast; rfl), by rw [HN2.out], ⟨by have := HG.out; omega⟩, HX5, HB5⟩
      · have HN2 := Aside0.mk (show nearUpto k (i + 1) = bb from by rw [HNX.out, if_neg hlt])
        go_wp2_with (first | (go_at_call 92; refine (HFB.out _ HC4.out).mono ?_; rintro e w5 ⟨rfl, hb_⟩; have HX5 := Aside0.mk (box_later HX4.out hb_); have HB5 := Aside0.mk (below_step HB4.out hb_); clear hb_) | (go_at_call 92; refine (HFI.out _ HC.out).mono ?_; rintro e w4 ⟨rfl, hb_⟩; have HX4 := Aside0.mk (box_later HX.out hb_); have HB4 := Aside0.mk (below_step HB.out hb_); have HC4 := Aside0.mk ((blk_cell HX4.out 0).trans (rfl : _ = some (Value.int .i64 k))); clear hb_))
        go_roundg g0
        case measure => omega
        case rel => exact ⟨i + 1, by first | rfl | (congr 1; push_cast; rfl), by rw [HN2.out], ⟨by have := HG.out; omega⟩, HX5, HB5⟩
    · obtain rfl : i = 17 := by have := HG.out; omega
      clear hi
      go_wp2
      exact bodyPost_ret (v := .int .i64 (nearUpto k 17 : Nat)) (by simp [results, Try.results68, go_sem]) rfl ⟨rfl, HB.out⟩
/-- The greatest of the lines, whatever their sign, up to place i. -/
def mostUpto (x : List Int) : Nat → Int
  | 0 => 0
  | i+1 => mx (mx (mostUpto x i) (x.getD i 0)) (-(x.getD i 0))
theorem mostUpto_ge (x : List Int) : ∀ i, 0 ≤ mostUpto x i ∧ ∀ j, j < i → x.getD j 0 ≤ mostUpto x i ∧ -(x.getD j 0) ≤ mostUpto x i
  | 0 => ⟨Int.le_refl _, fun j hj => absurd hj (by omega)⟩
  | i+1 => by
    have h := mostUpto_ge x i
    have hm : mostUpto x i ≤ mostUpto x (i + 1) ∧ x.getD i 0 ≤ mostUpto x (i + 1) ∧ -(x.getD i 0) ≤ mostUpto x (i + 1) := by
      simp only [mostUpto, mx]; (repeat' split) <;> omega
    refine ⟨by omega, fun j hj => ?_⟩
    by_cases e : j = i
    · subst e; exact ⟨hm.2.1, hm.2.2⟩
    · have := h.2 j (by omega); omega
theorem mostUpto_le (x : List Int) (hx : ∀ i, In32 (x.getD i 0)) : ∀ i, mostUpto x i ≤ 2147483648
  | 0 => by simp [mostUpto]
  | i+1 => by
    have h := mostUpto_le x hx i
    have h2 := hx i
    unfold In32 at h2
    simp only [mostUpto, mx]; (repeat' split) <;> omega
section
open Go.Proofs.Ytblehkoonajofaa.LogsBaseTns
/-- How far the lines are shifted. -/
def hV (x : List Int) : Nat := (nbits (mostUpto x x.length) - 15).toNat
theorem nbits32 {x : List Int} (hx : ∀ i, In32 (x.getD i 0)) : 0 ≤ nbits (mostUpto x x.length) ∧ nbits (mostUpto x x.length) ≤ 32 := by
  have h := mostUpto_le x hx x.length
  have h0 := (mostUpto_ge x x.length).1
  exact ⟨nbits_nonneg _, nbits_le h0 (Int.lt_of_le_of_lt h (by decide +kernel))⟩
theorem hV_le {x : List Int} (hx : ∀ i, In32 (x.getD i 0)) : hV x ≤ 17 := by
  have := nbits32 hx
  unfold hV; omega
theorem Bits_of {x : List Int} (hx : ∀ i, In32 (x.getD i 0)) : logs_Bits.f 1000 (mostUpto x x.length) = some (nbits (mostUpto x x.length)) := by
  have h := mostUpto_le x hx x.length
  have h0 := (mostUpto_ge x x.length).1
  exact Bits_eq h0 (by omega) (by decide)
/-- A line, shifted. -/
def aV (x : List Int) (i : Nat) : Int := x.getD i 0 / 2 ^ hV x
theorem aV_range {x : List Int} (hx : ∀ i, In32 (x.getD i 0)) (i : Nat) (hi : i < x.length) : -32768 ≤ aV x i ∧ aV x i ≤ 32768 := by
  have hg := (mostUpto_ge x x.length).2 i hi
  have h0 := (mostUpto_ge x x.length).1
  have hb := nbits_has h0
  have hlt : mostUpto x x.length < 2 ^ (nbits (mostUpto x x.length)).toNat := hb.2.1
  have hle : (nbits (mostUpto x x.length)).toNat ≤ 15 + hV x := by unfold hV; omega
  have hpow : (2 : Int) ^ (nbits (mostUpto x x.length)).toNat ≤ 2 ^ (15 + hV x) := by
    exact_mod_cast Nat.pow_le_pow_right (by decide) hle
  have hp : (2 : Int) ^ (15 + hV x) = 32768 * 2 ^ hV x := by rw [Int.pow_add]; rfl
  have hpos : (0 : Int) < 2 ^ hV x := by exact_mod_cast Nat.two_pow_pos _
  unfold aV
  generalize (2 : Int) ^ hV x = P at hp hpos
  generalize x.getD i 0 = v at hg
  generalize mostUpto x x.length = m at hg hlt hpow
  generalize (2 : Int) ^ (nbits m).toNat = Q at hlt hpow
  constructor
  · exact (Int.le_ediv_iff_mul_le hpos).2 (by omega)
  · exact Int.ediv_le_of_le_mul hpos (by omega)
end
/-- The sum of the products of lines that lie j apart, up to place m. -/
def corr (a : Nat → Int) (j : Nat) : Nat → Int
  | 0 => 0
  | m+1 => corr a j m + (if j ≤ m then a m * a (m - j) else 0)
theorem corr_start (a : Nat → Int) (j : Nat) : ∀ m, m ≤ j → corr a j m = 0
  | 0, _ => rfl
  | m+1, h => by simp only [corr]; rw [corr_start a j m (by omega), if_neg (by omega)]; rfl
theorem corr_range (a : Nat → Int) (j n : Nat) (ha : ∀ i, i < n → -32768 ≤ a i ∧ a i ≤ 32768) : ∀ m, m ≤ n → -(1073741824 * (m : Int)) ≤ corr a j m ∧ corr a j m ≤ 1073741824 * m
  | 0, _ => by simp [corr]
  | m+1, h => by
    have h1 := corr_range a j n ha m (by omega)
    simp only [corr]
    split
    · have hp := Go.Proofs.Ytblehkoonajofaa.Num.mul_abs (a := a m) (b := a (m - j)) (A := 32768) (B := 32768) (by have := ha m (by omega); omega) (by have := ha m (by omega); omega) (by have := ha (m - j) (by omega); omega) (by have := ha (m - j) (by omega); omega)
      push_cast
      omega
    · push_cast; omega
def corrL (x : List Int) : List Int := (List.range 5).map fun j => corr (aV x) j x.length
theorem corrL_length (x : List Int) : (corrL x).length = 5 := by simp [corrL]
theorem corrL_at (x : List Int) {j : Nat} (hj : j < 5) : (corrL x).getD j 0 = corr (aV x) j x.length := by
  rw [corrL, List.getD_eq_getElem?_getD, List.getElem?_map, List.getElem?_range hj]; rfl
set_option maxRecDepth 100000 in
theorem tns_alike.calls (A : Option Addr) (c : Nat) (x : List Int) (w : World) (hr : ReadsInt w .i32 A x.length x) (hn : x.length ≤ 120) (hx : ∀ i, In32 (x.getD i 0)) :
    Calls Try.prog 66 #[.slice A x.length c] w fun e w' => e = .returned (.agg (nums .i64 (corrL x)).toArray) ∧ Below w.heap.size w w' := by
  have HR := Aside0.mk hr
  have HN := Aside0.mk hn
  have HX := Aside0.mk hx
  have HBT := Aside0.mk (Bits_of hx)
  have HMG := Aside0.mk (fun i => And.intro (mostUpto_ge x i).1 (mostUpto_le x hx i))
  have HNB := Aside0.mk (nbits32 hx)
  have HMS := Aside0.mk (show ∀ i, mostUpto x (i + 1) = mx (mx (mostUpto x i) (x.getD i 0)) (-(x.getD i 0)) from fun i => rfl)
  have HH := Aside0.mk (show (hV x : Int) = mx (Go.Proofs.Ytblehkoonajofaa.LogsBaseTns.nbits (mostUpto x x.length) - 15) 0 from by unfold hV mx; split <;> omega)
  clear hr hn hx
  have HBB := Aside0.mk (below_alloc (Below.refl w.heap.size w) (.cells (nums .i64 z5).toArray 113))
  have HBX := Aside0.mk (blk_new w (.cells (nums .i64 z5).toArray 113))
  go_enter Try.func66, Try.ntmps66
  go_wp2
  change Code.wp _ _ _ _ (w.alloc (.cells (nums .i64 z5).toArray 113))
  generalize w.alloc (.cells (nums .i64 z5).toArray 113) = w2 at HBB HBX ⊢
  go_loopg [3, 5, 12, 13, 14, 15, 16, 17, 18, 19, 20, 21, 22, 23] x.length (fun kq v3 v5 v12 v13 v14 v15 v16 v17 v18 v19 v20 v21 v22 v23 wx => ∃ i : Nat, v12 = .int .i64 (i : Int) ∧ v3 = .int .i64 (mostUpto x i) ∧ Aside0 (kq + i = x.length) ∧ Aside0 (wx = w2))
  case atStart => exact ⟨0, rfl, rfl, ⟨rfl⟩, ⟨rfl⟩⟩
  case round =>
    obtain ⟨i, rfl, rfl, HG, HE⟩ := hrel
    obtain rfl := HE.out
    clear HE
    by_cases hi : i < x.length
    · have hi0 : (0 : Int) ≤ i := by omega
      have hin : (i : Int) < (x.length : Int) := by omega
      obtain ⟨adx, eA, hcx⟩ := HR.out.2.2 (by omega)
      subst eA
      have hc0 := hcx i hi
      have hc := (HBB.out.cell (World.block_lt_of_cell? _ _ hc0)).trans hc0
      have hmg := (HMG.out i).1
      have hml := (HMG.out i).2
      have hxi := HX.out i
      have hms := HMS.out i
      unfold In32 at hxi
      generalize x.getD i 0 = v at hc0 hc hxi hms
      generalize mostUpto x i = m at hmg hml hms ⊢
      have hvw : IntKind.i64.wrap v = v := by rw [i64_w]; unfold wrap64; omega
      have hnw : IntKind.i64.wrap (-v) = -v := by rw [i64_w]; unfold wrap64; omega
      have hwi : IntKind.i64.wrap ((i : Int) + 1) = ((i + 1 : Nat) : Int) := by rw [i64_w]; unfold wrap64; have := HN.out; omega
      obtain ⟨g0, rfl⟩ : ∃ g0, gk = g0 + 1 := ⟨gk - 1, by have := HG.out; omega⟩
      obtain ⟨m1, hm1⟩ : ∃ m1, m1 = mx m v := ⟨_, rfl⟩
      obtain ⟨m2, hm2⟩ : ∃ m2, m2 = mx m1 (-v) := ⟨_, rfl⟩
      rw [← hm1, ← hm2] at hms
      have HMS2 := Aside0.mk hms
      have hm1' := hm1.symm
      have hm2' := hm2.symm
      have HM1 := Aside0.mk hm1
      have HM2 := Aside0.mk hm2
      clear hm1 hm2 hms hc0 hi
      unfold mx at hm1' hm2'
      go_wp2
      go_roundg g0
      case measure => omega
      case rel => exact ⟨i + 1, by first | rfl | (congr 1; push_cast; rfl), by rw [HMS2.out], ⟨by have := HG.out; omega⟩, ⟨rfl⟩⟩
    · obtain rfl : i = x.length := by have := HG.out; omega
      clear hi
      have hmg := (HMG.out x.length).1
      have hml := (HMG.out x.length).2
      have hnb := HNB.out
      have hh := HH.out
      have hbt := HBT.out
      generalize mostUpto x x.length = m at hmg hml hnb hh hbt ⊢
      generalize Go.Proofs.Ytblehkoonajofaa.LogsBaseTns.nbits m = nb at hnb hh hbt
      obtain ⟨H, hH⟩ : ∃ H, H = hV x := ⟨_, rfl⟩
      rw [← hH] at hh
      have HHE := Aside0.mk hH
      have HHL := Aside0.mk (show H ≤ 17 from by rw [hH]; exact hV_le HX.out)
      have HBTS := Aside0.mk hbt
      have hin : ¬ ((x.length : Int) < (x.length : Int)) := by omega
      have huw : IntKind.u64.wrap m = m := by rw [IntKind.wrap]; simp [IntKind.bits, IntKind.signed]; omega
      have hbw : IntKind.i64.wrap (nb - 15) = nb - 15 := by rw [i64_w]; unfold wrap64; omega
      have hhe := hh.symm
      unfold mx at hhe
      clear hH hh hbt hmg hml hnb
      go_wp2_with (first | (go_at_call 91; refine (logs_Bits.calls 1000 m nb _ HBTS.out).mono ?_; rintro e w3 ⟨rfl, hb_⟩; obtain ⟨q8, hq8⟩ := hb_.out; have hbw3 := (show Below wr.heap.size wr w3 from (by rw [hq8]; exact pw_below_drewN (Below.refl _ _) _)); have HB3 := Aside0.mk (below_step HBB.out hbw3); have HX3 := Aside0.mk (box_later HBX.out hbw3); have HB4 := Aside0.mk (below_alloc HB3.out (.cells (nums .i64 z5).toArray 113)); have HX4 := Aside0.mk (box_later HX3.out (below_alloc (Below.refl w3.heap.size w3) (.cells (nums .i64 z5).toArray 113))); have HY4 := Aside0.mk (blk_new w3 (.cells (nums .i64 z5).toArray 113)); clear hb_ hq8 hbw3))
      change Code.wp _ _ _ _ (w3.alloc (.cells (nums .i64 z5).toArray 113))
      have HSZ := Aside0.mk (below_size HB3.out)
      have HLT := Aside0.mk (blk_lt HX3.out)
      generalize w3.alloc (.cells (nums .i64 z5).toArray 113) = w4 at HB4 HX4 HY4 ⊢
      generalize w3.heap.size = b7 at HY4 HSZ HLT ⊢
      have HRA := Aside0.mk (fun (j : Nat) (hj : j < 5) => corrL_at x hj)
      have HRL := Aside0.mk (corrL_length x)
      obtain ⟨R, hR⟩ : ∃ R, R = corrL x := ⟨_, rfl⟩
      rw [← hR] at HRA HRL
      have HRE := Aside0.mk hR
      have HCR := Aside0.mk (fun (j : Nat) => corr_range (aV x) j x.length (fun i hi => aV_range HX.out i hi))
      have HAR := Aside0.mk (fun (i : Nat) (hi : i < x.length) => aV_range HX.out i hi)
      have HAE := Aside0.mk (show ∀ i, aV x i = x.getD i 0 / 2 ^ H from fun i => by rw [HHE.out]; rfl)
      clear hR HB3 HX3 HBB HBX huw hbw hhe
      generalize aV x = a at HRA HCR HAR HAE
      go_loopg [8, 9, 29, 30, 31, 32, 33, 34, 35, 36, 37, 38, 39, 40, 41, 42, 43, 44, 45, 46, 47, 48, 49, 50, 51, 52, 53, 54, 55, 56, 57, 58, 59, 60, 61] 5 (fun kq v8 v9 v29 v30 v31 v32 v33 v34 v35 v36 v37 v38 v39 v40 v41 v42 v43 v44 v45 v46 v47 v48 v49 v50 v51 v52 v53 v54 v55 v56 v57 v58 v59 v60 v61 wx => ∃ j : Nat, v29 = .int .i64 (j : Int) ∧ Aside0 (kq + j = 5) ∧ Aside0 (wx.heap[w.heap.size]? = some (.cells (nums .i64 z5).toArray 113 (0, 0))) ∧ Aside0 (wx.heap[b7]? = some (.cells (nums .i64 (R.take j ++ z5.drop j)).toArray 113 (0, 0))) ∧ Aside0 (Below w.heap.size w wx))
      case atStart => exact ⟨0, rfl, ⟨rfl⟩, HX4, HY4, HB4⟩
      case round =>
        clear HX4 HY4 HB4
        obtain ⟨j, rfl, HG, HX4, HY, HB⟩ := hrel
        by_cases hj : j < 5
        · have hj0 : (0 : Int) ≤ j := by omega
          have hj5 : (j : Int) < 5 := by omega
          obtain ⟨gO, rfl⟩ : ∃ gO, gk = gO + 1 := ⟨gk - 1, by have := HG.out; omega⟩
          have HJJ := Aside0.mk hj
          have HML := Aside0.mk (show (R.take j ++ z5.drop j).length = 5 from by rw [List.length_append, List.length_take, List.length_drop, HRL.out]; show min j 5 + (5 - j) = 5; omega)
          have hz0 : (R.take j ++ z5.drop j).getD j 0 = 0 := by
            rw [mix_at hj HRL.out rfl]
            have hc : j = 0 ∨ j = 1 ∨ j = 2 ∨ j = 3 ∨ j = 4 := by omega
            rcases hc with rfl | rfl | rfl | rfl | rfl <;> rfl
          obtain ⟨B, hB⟩ : ∃ B, B = R.take j ++ z5.drop j := ⟨_, rfl⟩
          rw [← hB] at HY HML hz0
          have HBE := Aside0.mk hB
          have HY0 := Aside0.mk (show wr.heap[b7]? = some (.cells (nums .i64 (B.set j (corr a j j))).toArray 113 (0, 0)) from by
            rw [HY.out, corr_start a j j (Nat.le_refl _), ← hz0, List.getD_eq_getElem?_getD, List.getElem?_eq_getElem (by rw [HML.out]; exact hj)]; simp)
          clear hB hz0 hj
          go_wp2
          go_loopg [9, 33, 34, 35, 36, 37, 38, 39, 40, 41, 42, 43, 44, 45, 46, 47, 48, 49, 50, 51, 52, 53, 54, 55, 56, 57, 58, 59, 60] (x.length - j) (fun kq v9 v33 v34 v35 v36 v37 v38 v39 v40 v41 v42 v43 v44 v45 v46 v47 v48 v49 v50 v51 v52 v53 v54 v55 v56 v57 v58 v59 v60 wx => ∃ i : Nat, v9 = .int .i64 (i : Int) ∧ Aside0 (kq = x.length - i ∧ j ≤ i ∧ (i ≤ x.length ∨ i = j)) ∧ Aside0 (wx.heap[w.heap.size]? = some (.cells (nums .i64 z5).toArray 113 (0, 0))) ∧ Aside0 (wx.heap[b7]? = some (.cells (nums .i64 (B.set j (corr a j i))).toArray 113 (0, 0))) ∧ Aside0 (Below w.heap.size w wx))
          case atStart => exact ⟨j, rfl, ⟨rfl, Nat.le_refl _, .inr rfl⟩, ⟨HX4.out⟩, ⟨HY0.out⟩, ⟨HB.out⟩⟩
          case round =>
            clear HY0 HY HB HX4
            obtain ⟨i, rfl, HG2, HX4, HY, HB⟩ := hrel
            by_cases hi : i < x.length
            · have hi0 : (0 : Int) ≤ i := by omega
              have hin : (i : Int) < (x.length : Int) := by omega
              have hji := HG2.out.2.1
              obtain ⟨adx, eA, hcx⟩ := HR.out.2.2 (by omega)
              subst eA
              have hc1 := hcx i hi
              have hc2 := hcx (i - j) (by omega)
              have hd1 := (HB.out.cell (World.block_lt_of_cell? _ _ hc1)).trans hc1
              have hd2 := (HB.out.cell (World.block_lt_of_cell? _ _ hc2)).trans hc2
              have ha1 := HAE.out i
              have ha2 := HAE.out (i - j)
              have hr1 := HAR.out i hi
              have hr2 := HAR.out (i - j) (by omega)
              have hcr := HCR.out j i (by omega)
              have hcs : corr a j (i + 1) = corr a j i + a i * a (i - j) := by simp only [corr]; rw [if_pos hji]
              have hbl : (B.set j (corr a j i)).length = 5 := by rw [List.length_set, HML.out]
              have hacc := nums_at HY.out (i := j) (by rw [hbl]; exact HJJ.out)
              rw [show (B.set j (corr a j i)).getD j 0 = corr a j i from by rw [List.getD_eq_getElem?_getD, List.getElem?_set_self (by rw [HML.out]; exact HJJ.out)]; rfl] at hacc
              have hof : wr.frozen? ⟨b7, j, none⟩ = false := blk_frozen HY.out j
              have hsub : IntKind.i64.wrap ((i : Int) - (j : Int)) = ((i - j : Nat) : Int) := by rw [i64_w]; unfold wrap64; have := HN.out; omega
              have hs0 : (0 : Int) ≤ ((i - j : Nat) : Int) := by omega
              have hs1 : ((i - j : Nat) : Int) < (x.length : Int) := by omega
              have hs2 : i - j < x.length := by omega
              generalize x.getD i 0 = v1 at hc1 hd1 ha1
              generalize x.getD (i - j) 0 = v2 at hc2 hd2 ha2
              generalize corr a j i = acc at hcr hcs hacc HY
              generalize a i = p1 at ha1 hr1 hcs
              generalize a (i - j) = p2 at ha2 hr2 hcs
              have hprod := Go.Proofs.Ytblehkoonajofaa.Num.mul_abs (a := p1) (b := p2) (A := 32768) (B := 32768) (by omega) (by omega) (by omega) (by omega)
              obtain ⟨PP, hPP⟩ : ∃ PP, PP = p1 * p2 := ⟨_, rfl⟩
              rw [← hPP] at hcs hprod
              have hpw : IntKind.i64.wrap (p1 * p2) = PP := by rw [← hPP, i64_w]; unfold wrap64; omega
              have hw1 : IntKind.i64.wrap p1 = p1 := by rw [i64_w]; unfold wrap64; omega
              have hw2 : IntKind.i64.wrap p2 = p2 := by rw [i64_w]; unfold wrap64; omega
              have hH0 : (0 : Int) ≤ (H : Int) := by omega
              have haw : IntKind.i64.wrap (acc + PP) = acc + PP := by rw [i64_w]; unfold wrap64; have := HN.out; omega
              have hwi : IntKind.i64.wrap ((i : Int) + 1) = ((i + 1 : Nat) : Int) := by rw [i64_w]; unfold wrap64; have := HN.out; omega
              have HCS := Aside0.mk hcs
              have HII := Aside0.mk hi
              have hmin : min H 32 = H := by have := HHL.out; omega
              have hsh1 : v1 / 2 ^ min H 32 = p1 := by rw [hmin, ha1]
              have hsh2 : v2 / 2 ^ min H 32 = p2 := by rw [hmin, ha2]
              have HY3 := Aside0.mk (blk_store HY.out j (acc + PP))
              clear hcs hprod hcr hr1 hr2 hbl hc1 hc2 hcx hPP hmin
              go_wp2
              have e1 : wr.drew.cell? ⟨b7, j, none⟩ = some (.int .i64 acc) := hacc
              have hof2 : wr.drew.frozen? ⟨b7, j, none⟩ = false := hof
              go_still_tail 22, (by kernel_rfl)
              repeat still_step
              try refine wpStill_nil ?_
              change wpList _ _ _ _ _ wr.drew
              have HYd := Aside0.mk (show wr.drew.heap[b7]? = some (.cells (nums .i64 (B.set j acc)).toArray 113 (0, 0)) from HY.out)
              have HXd := Aside0.mk (show wr.drew.heap[w.heap.size]? = some (.cells (nums .i64 z5).toArray 113 (0, 0)) from HX4.out)
              have HBd := Aside0.mk (below_drew HB.out)
              have HYe := Aside0.mk (blk_store HYd.out j (acc + PP))
              rw [List.set_set] at HYe
              have HXe := Aside0.mk ((Below.heap_setCell wr.drew ⟨b7, j, none⟩ (.int .i64 (acc + PP)) w.heap.size (by have := HLT.out; dsimp; omega)).trans HXd.out)
              have HBe := Aside0.mk (HBd.out.setCell (p := ⟨b7, j, none⟩) (by have := HSZ.out; dsimp; omega) (.int .i64 (acc + PP)))
              clear hacc hd1 hd2 hof HY3
              generalize wr.drew = wd at e1 hof2 HYe HXe HBe HYd HXd HBd ⊢
              go_wp2
              have hval : wrap64 (acc + wrap64 (wrap64 (v1 / 2 ^ H) * wrap64 (v2 / 2 ^ H))) = acc + PP := by
                rw [← ha1, ← ha2, ← i64_w, ← i64_w, ← i64_w, ← i64_w, hw1, hw2, hpw, haw]
              rw [hval]
              obtain ⟨g0, rfl⟩ : ∃ g0, gk = g0 + 1 := ⟨gk - 1, by have := HG2.out.1; have := HII.out; omega⟩
              go_roundg g0
              case measure => omega
              case rel => exact ⟨i + 1, by first | rfl | (congr 1; push_cast; rfl), ⟨by have := HG2.out.1; have := HII.out; omega, by have := HG2.out.2.1; omega, by have := HII.out; omega⟩, HXe, ⟨by rw [HCS.out]; exact HYe.out⟩, HBe⟩
            · have hin2 : ¬ ((i : Int) < (x.length : Int)) := by omega
              have hcR : corr a j i = R.getD j 0 := by
                rw [HRA.out j HJJ.out]
                rcases HG2.out.2.2 with h | h
                · have : i = x.length := by omega
                  rw [this]
                · rw [h, corr_start a j j (Nat.le_refl _), corr_start a j x.length (by omega)]
              have HY9 := Aside0.mk (show wr.heap[b7]? = some (.cells (nums .i64 (R.take (j + 1) ++ z5.drop (j + 1))).toArray 113 (0, 0)) from by
                rw [HY.out, hcR, HBE.out, mix_set HJJ.out HRL.out rfl])
              have hwj : IntKind.i64.wrap ((j : Int) + 1) = ((j + 1 : Nat) : Int) := by rw [i64_w]; unfold wrap64; have := HJJ.out; omega
              clear hi hcR
              go_wp2
              go_roundg gO
              case measure => omega
              case rel => exact ⟨j + 1, by first | rfl | (congr 1; push_cast; rfl), ⟨by have := HG.out; omega⟩, HX4, HY9, HB⟩
        · obtain rfl : j = 5 := by have := HG.out; omega
          clear hj
          have HY9 := Aside0.mk (show wr.heap[b7]? = some (.cells (nums .i64 R).toArray 113 (0, 0)) from by have h1 := HY.out; rw [show z5.drop 5 = [] from rfl, List.append_nil, List.take_of_length_le (by rw [HRL.out]; exact Nat.le_refl _)] at h1; exact h1)
          obtain ⟨f0, f1, f2, f3, f4, h5⟩ := five HRL.out
          have x0 := (blk_cell HY9.out 0).trans (show (nums .i64 R).toArray[0]? = some (.int .i64 f0) from by rw [h5]; rfl)
          have x1 := (blk_cell HY9.out 1).trans (show (nums .i64 R).toArray[1]? = some (.int .i64 f1) from by rw [h5]; rfl)
          have x2 := (blk_cell HY9.out 2).trans (show (nums .i64 R).toArray[2]? = some (.int .i64 f2) from by rw [h5]; rfl)
          have x3 := (blk_cell HY9.out 3).trans (show (nums .i64 R).toArray[3]? = some (.int .i64 f3) from by rw [h5]; rfl)
          have x4 := (blk_cell HY9.out 4).trans (show (nums .i64 R).toArray[4]? = some (.int .i64 f4) from by rw [h5]; rfl)
          have HR5 := Aside0.mk (show (nums .i64 (corrL x)).toArray = #[.int .i64 f0, .int .i64 f1, .int .i64 f2, .int .i64 f3, .int .i64 f4] from by rw [← HRE.out, h5]; rfl)
          clear h5
          go_wp2_with (first | (refine wpList_store_row rfl 113 _ _ rfl w.heap.size #[.int .i64 f0, .int .i64 f1, .int .i64 f2, .int .i64 f3, .int .i64 f4] rfl rfl 113 (nums .i64 z5).toArray HX4.out (by kernel_rfl) (by kernel_rfl) (by kernel_rfl) ?_))
          have hz := setRow_heap wr w.heap.size (nums .i64 z5).toArray #[.int .i64 f0, .int .i64 f1, .int .i64 f2, .int .i64 f3, .int .i64 f4] 113 (0, 0) HX4.out
          have HBZ := Aside0.mk (below_setRow HB.out (Nat.le_refl _) #[.int .i64 f0, .int .i64 f1, .int .i64 f2, .int .i64 f3, .int .i64 f4])
          generalize wr.setRow w.heap.size #[.int .i64 f0, .int .i64 f1, .int .i64 f2, .int .i64 f3, .int .i64 f4] = wz at hz HBZ ⊢
          have z0 := (blk_cell hz 0).trans rfl; have z1 := (blk_cell hz 1).trans rfl; have z2 := (blk_cell hz 2).trans rfl; have z3 := (blk_cell hz 3).trans rfl; have z4_ := (blk_cell hz 4).trans rfl
          rw [HR5.out]
          exact bodyPost_ret (v := .agg #[.int .i64 f0, .int .i64 f1, .int .i64 f2, .int .i64 f3, .int .i64 f4]) (by simp [results, Try.results66, go_sem, z0, z1, z2, z3, z4_]) rfl ⟨rfl, HBZ.out⟩
end Go.Proofs.Ytblehkoonajofaa.PTns
