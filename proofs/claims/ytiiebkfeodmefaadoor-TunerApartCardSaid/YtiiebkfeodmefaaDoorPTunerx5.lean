/- Contracts of the functions that the law Tuner reaches: each Go function as a Lean function, and that the Go text comes to it. Written by programs (wip/tools), out of the program's own loaded form. -/
import Derived.Test.YtiiebkfeodmefaaDoorPTunerx0
import Derived.Test.YtiiebkfeodmefaaDoorPTunerx1b
import Derived.Test.YtiiebkfeodmefaaDoorPTunerx4
namespace Go.Proofs.YtiiebkfeodmefaaDoor.PTuner
open Go.RowKit Go.Proofs.YtiiebkfeodmefaaDoorW.PrintWords Go.Proofs.YtiiebkfeodmefaaDoorW.PrintLast Go.Proofs.YtiiebkfeodmefaaDoorW.PrintMore
attribute [local go_sem] max2_int min2_int max_two min_two max_three min_three max_four min_four   -- for this text's walks alone
set_option linter.unusedVariables false
set_option linter.unusedSimpArgs false

def twoS (k : Nat) : ByteArray := ⟨((([67, 32, 67, 35, 68, 32, 68, 35, 69, 32, 70, 32, 70, 35, 71, 32, 71, 35, 65, 32, 65, 35, 66, 32] : List UInt8).drop (2 * k)).take 2).toArray⟩
def charV (k : Nat) : Int := if k = 1 ∨ k = 3 ∨ k = 6 ∨ k = 8 ∨ k = 10 then 35 else 32
theorem cases12 {p : Nat → Prop} (h0 : p 0) (h1 : p 1) (h2 : p 2) (h3 : p 3) (h4 : p 4) (h5 : p 5) (h6 : p 6) (h7 : p 7) (h8 : p 8) (h9 : p 9) (h10 : p 10) (h11 : p 11) (k : Nat) (hk : k < 12) : p k := by
  have hc : k = 0 ∨ k = 1 ∨ k = 2 ∨ k = 3 ∨ k = 4 ∨ k = 5 ∨ k = 6 ∨ k = 7 ∨ k = 8 ∨ k = 9 ∨ k = 10 ∨ k = 11 := by omega
  rcases hc with rfl | rfl | rfl | rfl | rfl | rfl | rfl | rfl | rfl | rfl | rfl | rfl <;> assumption
theorem slice_two (k : Nat) (hk : k < 12) : ∀ W, (Instr.slice 9 (.string ⟨#[67, 32, 67, 35, 68, 32, 68, 35, 69, 32, 70, 32, 70, 35, 71, 32, 71, 35, 65, 32, 65, 35, 66, 32]⟩) (some (.int .i64 (2 * (k : Int)))) (some (.int .i64 (2 * (k : Int) + 2))) none).run Tryd.prog W = .ok (.string (twoS k)) W := by
  refine cases12 (p := fun k => ∀ W, (Instr.slice 9 (.string ⟨#[67, 32, 67, 35, 68, 32, 68, 35, 69, 32, 70, 32, 70, 35, 71, 32, 71, 35, 65, 32, 65, 35, 66, 32]⟩) (some (.int .i64 (2 * (k : Int)))) (some (.int .i64 (2 * (k : Int) + 2))) none).run Tryd.prog W = .ok (.string (twoS k)) W) ?_ ?_ ?_ ?_ ?_ ?_ ?_ ?_ ?_ ?_ ?_ ?_ k hk <;> (intro W; kernel_rfl)
theorem index_two (k : Nat) (hk : k < 12) : ∀ W, (Instr.index 9 (.string (twoS k)) (.int .i64 1)).run Tryd.prog W = .ok (.int .u8 (charV k)) W := by
  refine cases12 (p := fun k => ∀ W, (Instr.index 9 (.string (twoS k)) (.int .i64 1)).run Tryd.prog W = .ok (.int .u8 (charV k)) W) ?_ ?_ ?_ ?_ ?_ ?_ ?_ ?_ ?_ ?_ ?_ ?_ k hk <;> (intro W; kernel_rfl)
theorem cut_two (k : Nat) (hk : k < 12) (hc : charV k = 32) : ∀ W, (Instr.slice 9 (.string (twoS k)) none (some (.int .i64 1)) none).run Tryd.prog W = .ok (.string ⟨(nameL.getD k []).toArray⟩) W := by
  revert hc
  refine cases12 (p := fun k => charV k = 32 → ∀ W, (Instr.slice 9 (.string (twoS k)) none (some (.int .i64 1)) none).run Tryd.prog W = .ok (.string ⟨(nameL.getD k []).toArray⟩) W) ?_ ?_ ?_ ?_ ?_ ?_ ?_ ?_ ?_ ?_ ?_ ?_ k hk <;> first | (intro h; exact absurd h (by decide)) | (intro _ W; kernel_rfl)
theorem keep_two (k : Nat) (hk : k < 12) (hc : charV k ≠ 32) : twoS k = ⟨(nameL.getD k []).toArray⟩ := by
  revert hc
  refine cases12 (p := fun k => charV k ≠ 32 → twoS k = ⟨(nameL.getD k []).toArray⟩) ?_ ?_ ?_ ?_ ?_ ?_ ?_ ?_ ?_ ?_ ?_ ?_ k hk <;> first | (intro h; exact absurd rfl h) | (intro _; rfl)
theorem slice_oct (q : Nat) (h1 : 1 ≤ q) (hq : q ≤ 10) : ∀ W, (Instr.slice 9 (.string ⟨#[48, 49, 50, 51, 52, 53, 54, 55, 56, 57]⟩) (some (.int .i64 ((q : Int) - 1))) (some (.int .i64 (q : Int))) none).run Tryd.prog W = .ok (.string ⟨(Lib.itoa ((q : Nat) - 1)).toArray⟩) W := by
  have hlt : q < 12 := by omega
  revert h1 hq
  refine cases12 (p := fun q => 1 ≤ q → q ≤ 10 → ∀ W, (Instr.slice 9 (.string ⟨#[48, 49, 50, 51, 52, 53, 54, 55, 56, 57]⟩) (some (.int .i64 ((q : Int) - 1))) (some (.int .i64 (q : Int))) none).run Tryd.prog W = .ok (.string ⟨(Lib.itoa ((q : Nat) - 1)).toArray⟩) W) ?_ ?_ ?_ ?_ ?_ ?_ ?_ ?_ ?_ ?_ ?_ ?_ q hlt <;> first | (intro h g; exact absurd h (by decide)) | (intro h g; exact absurd g (by decide)) | (intro _ _ W; kernel_rfl)
theorem oct_neg : (⟨(Lib.itoa (((0 : Nat) : Int) - 1)).toArray⟩ : ByteArray) = ⟨#[45, 49]⟩ := by decide +kernel
def psalteryref37_Name.f (a0 : Int) : Option (ByteArray) := if 0 ≤ a0 ∧ a0 ≤ 127 then some (nameS a0.toNat) else none
set_option maxHeartbeats 8000000 in
set_option maxRecDepth 100000 in
theorem psalteryref37_Name.calls (a0 : Int) (r : ByteArray) (w : World) (h : psalteryref37_Name.f a0 = some r) :
    Calls Tryd.prog 12 #[.int .i64 a0] w fun e w' => e = .returned (.string r) ∧ Drawn0 w w' := by
  unfold psalteryref37_Name.f at h
  by_cases hn : 0 ≤ a0 ∧ a0 ≤ 127
  · rw [if_pos hn] at h
    obtain rfl := Option.some.inj h
    obtain ⟨n, rfl⟩ : ∃ n : Nat, a0 = n := ⟨a0.toNat, by omega⟩
    obtain ⟨k, hk⟩ : ∃ k, k = n % 12 := ⟨_, rfl⟩
    obtain ⟨q, hq⟩ : ∃ q, q = n / 12 := ⟨_, rfl⟩
    have HR := Aside0.mk (show nameS ((n : Int)).toNat = (⟨(nameL.getD k []).toArray⟩ : ByteArray) ++ ⟨(Lib.itoa ((q : Nat) - 1)).toArray⟩ from by unfold nameS; rw [hk, hq, Int.toNat_natCast])
    have hk12 : k < 12 := by omega
    have hq11 : q ≤ 10 := by omega
    have hrem : Int.tmod (n : Int) 12 = (k : Int) := by rw [Int.tmod_eq_emod_of_nonneg (by omega)]; omega
    have hquo : Int.tdiv (n : Int) 12 = (q : Int) := by rw [Int.tdiv_eq_ediv_of_nonneg (by omega)]; omega
    have hqw : IntKind.i64.wrap (q : Int) = (q : Int) := by rw [i64_w]; unfold wrap64; omega
    obtain ⟨q1, hq1⟩ : ∃ q1 : Int, q1 = (q : Int) - 1 := ⟨_, rfl⟩
    have hqw1 : IntKind.i64.wrap ((q : Int) - 1) = q1 := by rw [i64_w, hq1]; unfold wrap64; omega
    obtain ⟨a, ha⟩ : ∃ a : Int, a = 2 * (k : Int) := ⟨_, rfl⟩
    obtain ⟨b, hb⟩ : ∃ b : Int, b = a + 2 := ⟨_, rfl⟩
    have hwa : IntKind.i64.wrap (2 * (k : Int)) = a := by rw [i64_w, ha]; unfold wrap64; omega
    have hwb : IntKind.i64.wrap (a + 2) = b := by rw [i64_w, hb, ha]; unfold wrap64; omega
    have hs2 := slice_two k hk12
    rw [← ha, ← hb] at hs2
    have hi2 := index_two k hk12
    have hlen : (⟨(nameL.getD k []).toArray⟩ : ByteArray).size + (⟨(Lib.itoa ((q : Nat) - 1)).toArray⟩ : ByteArray).size ≤ 9223372036854775807 := by
      have h1 := nameL_len k hk12
      have h2 := itoa_len q hq11
      show (nameL.getD k []).toArray.size + (Lib.itoa ((q : Nat) - 1)).toArray.size ≤ _
      rw [List.size_toArray, List.size_toArray]; omega
    have hct := cut_two k hk12
    have hkt := keep_two k hk12
    have hso := slice_oct q
    have hcase : (n < 12 ∧ (⟨(Lib.itoa ((q : Nat) - 1)).toArray⟩ : ByteArray) = ⟨#[45, 49]⟩) ∨ (¬ n < 12 ∧ 1 ≤ q) := by
      by_cases c : n < 12
      · refine .inl ⟨c, ?_⟩
        obtain rfl : q = 0 := by omega
        exact oct_neg
      · exact .inr ⟨c, by omega⟩
    generalize (⟨(nameL.getD k []).toArray⟩ : ByteArray) = s at HR hlen hct hkt
    generalize (⟨(Lib.itoa ((q : Nat) - 1)).toArray⟩ : ByteArray) = u at HR hlen hcase hso
    rw [← hq1] at hso
    generalize nameS ((n : Int)).toNat = r at HR ⊢
    generalize twoS k = t at hs2 hi2 hct hkt
    generalize charV k = c at hi2 hct hkt
    have hfin : ∀ W, (binOp .add 9 (.string s) (.string u)).run Tryd.prog W = .ok (.string (s ++ u)) W := fun W => by simp [binOp, go_sem, hlen]
    clear ha hb hq1 h hn hk hq
    rcases hcase with ⟨c0, rfl⟩ | ⟨c0, cq⟩
    · have h12 : ¬ (12 : Int) ≤ (n : Int) := by omega
      clear hso c0
      by_cases hc : c = 32
      · have hct2 := hct hc
        have hcb : (c == 32) = true := by simp [hc]
        clear hct hkt hc
        go_enter Tryd.func12, Tryd.ntmps12
        go_wp2
        go_ret
        exact ⟨by rw [HR.out]; rfl, by repeat (first | exact Drawn0.refl _ | apply Drawn0.step)⟩
      · have hkt2 := hkt hc
        have hcb : (c == 32) = false := by simp [hc]
        subst hkt2
        clear hct hkt hc
        go_enter Tryd.func12, Tryd.ntmps12
        go_wp2
        go_ret
        exact ⟨by rw [HR.out]; rfl, by repeat (first | exact Drawn0.refl _ | apply Drawn0.step)⟩
    · have h12 : (12 : Int) ≤ (n : Int) := by omega
      have hso2 := hso cq hq11
      clear hso c0 cq
      by_cases hc : c = 32
      · have hct2 := hct hc
        have hcb : (c == 32) = true := by simp [hc]
        clear hct hkt hc
        go_enter Tryd.func12, Tryd.ntmps12
        go_wp2
        go_ret
        exact ⟨by rw [HR.out]; rfl, by repeat (first | exact Drawn0.refl _ | apply Drawn0.step)⟩
      · have hkt2 := hkt hc
        have hcb : (c == 32) = false := by simp [hc]
        subst hkt2
        clear hct hkt hc
        go_enter Tryd.func12, Tryd.ntmps12
        go_wp2
        go_ret
        exact ⟨by rw [HR.out]; rfl, by repeat (first | exact Drawn0.refl _ | apply Drawn0.step)⟩
  · rw [if_neg hn] at h; cases h

/-! ### psalteryref02_Bits: function 55 -/
def psalteryref02_Bits.l0 : Nat → Int → Int → Option (Int)
  | 0, _, _ => none
  | k + 1, x0, x3 => if x0 > 0 then (psalteryref02_Bits.l0 k (IntKind.u64.wrap (Int.tdiv x0 2)) (wrap64 (x3 + 1))) else (some x3)
def psalteryref02_Bits.f (k : Nat) (a0 : Int) : Option (Int) := psalteryref02_Bits.l0 k a0 0
theorem psalteryref02_Bits.mono_l : ∀ k, (∀ y0 y1, LeO (psalteryref02_Bits.l0 k y0 y1) (psalteryref02_Bits.l0 (k + 1) y0 y1))
  | 0 => fun _ _ r h => by simp [psalteryref02_Bits.l0] at h
  | k + 1 => by
    have ih0 := psalteryref02_Bits.mono_l k
    · intro y0 y1
      unfold psalteryref02_Bits.l0
      repeat' first
      | (with_reducible exact ih0 _ _)
      | (with_reducible exact LeO.refl _)
      | (with_reducible exact LeO.none _)
      | (with_reducible refine LeO.ite ?_ ?_)
      | (with_reducible refine LeO.bind ?_ (fun _ => ?_))
      | exact ih0 _ _
      | exact LeO.none _
      | refine LeO.ite ?_ ?_
      | refine LeO.bind ?_ (fun _ => ?_)
theorem psalteryref02_Bits.mono : ∀ a0 k, LeO (psalteryref02_Bits.f k a0) (psalteryref02_Bits.f (k + 1) a0) := by
  intro a0 k
  have ih0 := psalteryref02_Bits.mono_l k
  unfold psalteryref02_Bits.f
  repeat' first
      | (with_reducible exact ih0 _ _)
      | (with_reducible exact LeO.refl _)
      | (with_reducible exact LeO.none _)
      | (with_reducible refine LeO.ite ?_ ?_)
      | (with_reducible refine LeO.bind ?_ (fun _ => ?_))
      | exact ih0 _ _
      | exact LeO.none _
      | refine LeO.ite ?_ ?_
      | refine LeO.bind ?_ (fun _ => ?_)
set_option maxHeartbeats 8000000 in
set_option maxRecDepth 100000 in
theorem psalteryref02_Bits.calls (k : Nat) (a0 : Int) (r : Int) (w : World) (h : psalteryref02_Bits.f k a0 = some r) :
    Calls Tryd.prog 55 #[.int .u64 a0] w fun e w' => e = .returned (.int .i64 r) ∧ Drawn0 w w' := by
  have H : (psalteryref02_Bits.l0 k a0 0) = some r := h
  clear h
  have H' := Aside0.mk H
  clear H
  go_enter Tryd.func55, Tryd.ntmps55
  go_wp2
  go_loopg [0, 3] k (fun kq v0 v3 w' => ∃ (x0_1 : Int) (x3_1 : Int), v0 = .int .u64 x0_1 ∧ v3 = .int .i64 x3_1 ∧ Aside0 (psalteryref02_Bits.l0 kq x0_1 x3_1 = some r) ∧ Aside0 (kq ≤ k) ∧ Drawn0 w w')
  case atStart => exact ⟨(a0), (0), (by first | rfl | (simp; done) | (simp [*]; done)), (by first | rfl | (simp; done) | (simp [*]; done)), H', ⟨Nat.le_refl _⟩, by repeat (first | exact Drawn0.refl _ | apply Drawn0.step)⟩
  case round =>
    clear H'
    obtain ⟨x0_1, x3_1, rfl, rfl, HA, HK1, ⟨m1, rfl⟩⟩ := hrel
    cases gk with
    | zero => exact absurd HA.out (by simp [psalteryref02_Bits.l0])
    | succ k1 =>
      have H := HA.out
      clear HA
      simp only [psalteryref02_Bits.l0] at H
      by_cases c2 : x0_1 > 0
      · rw [if_pos c2] at H
        have c2b0 : decide (0 < x0_1) = true := decide_eq_true c2
        clear c2
        have H' := Aside0.mk H
        clear H
        go_wp2
        go_roundg k1
        case measure => have := HK1.out; omega
        case rel => exact ⟨(IntKind.u64.wrap (Int.tdiv x0_1 2)), (wrap64 (x3_1 + 1)), (by first | rfl | (simp; done) | (simp [*]; done)), (by first | rfl | (simp; done) | (simp [*]; done)), H', ⟨by have := HK1.out; omega⟩, by repeat (first | exact Drawn0.refl _ | apply Drawn0.step)⟩
      · rw [if_neg c2] at H
        have c2b0 : decide (0 < x0_1) = false := decide_eq_false c2
        clear c2
        obtain rfl := Option.some.inj H
        go_wp2
        go_ret
        exact ⟨by first | rfl | (simp; done) | (simp [*]; done), by repeat (first | exact Drawn0.refl _ | apply Drawn0.step)⟩

/-! ### psalteryref02_Log: function 37 -/
mutual
def psalteryref02_Log.l0 : Nat → Int → Int → Option (Int × Int)
  | 0, _, _ => none
  | k + 1, x4, x5 => if x5 < 1073741824 then (psalteryref02_Log.l0 k x4 (IntKind.u64.wrap (x5 * 2))) else (psalteryref02_Log.l1 k x4 x5)
def psalteryref02_Log.l1 : Nat → Int → Int → Option (Int × Int)
  | 0, _, _ => none
  | k + 1, x4, x5 => if x5 ≥ 2147483648 then (psalteryref02_Log.l1 k x4 (IntKind.u64.wrap (Int.tdiv x5 2))) else (psalteryref02_Log.l2 k x4 x5 0 0)
def psalteryref02_Log.l2 : Nat → Int → Int → Int → Int → Option (Int × Int)
  | 0, _, _, _, _ => none
  | k + 1, x4, x5, x6, x7 => if x7 < 8 then (if (IntKind.u64.wrap (Int.tdiv (IntKind.u64.wrap (x5 * x5)) 1073741824)) ≥ 2147483648 then (psalteryref02_Log.l2 k x4 (IntKind.u64.wrap (Int.tdiv (IntKind.u64.wrap (Int.tdiv (IntKind.u64.wrap (x5 * x5)) 1073741824)) 2)) (wrap64 ((wrap64 (x6 * 2)) + 1)) (wrap64 (x7 + 1))) else (psalteryref02_Log.l2 k x4 (IntKind.u64.wrap (Int.tdiv (IntKind.u64.wrap (x5 * x5)) 1073741824)) (wrap64 (x6 * 2)) (wrap64 (x7 + 1)))) else (some (wrap32 (wrap64 ((wrap64 (256 * x4)) + x6)), 0))
end
def psalteryref02_Log.f (k : Nat) (a0 : Int) : Option (Int × Int) := if a0 = 0 then (some (0, 1)) else ((psalteryref02_Bits.f k a0).bind fun t180 => (psalteryref02_Log.l0 k (wrap64 (t180 - 1)) a0))
theorem psalteryref02_Log.mono_l : ∀ k, (∀ y0 y1, LeO (psalteryref02_Log.l0 k y0 y1) (psalteryref02_Log.l0 (k + 1) y0 y1)) ∧ (∀ y0 y1, LeO (psalteryref02_Log.l1 k y0 y1) (psalteryref02_Log.l1 (k + 1) y0 y1)) ∧ (∀ y0 y1 y2 y3, LeO (psalteryref02_Log.l2 k y0 y1 y2 y3) (psalteryref02_Log.l2 (k + 1) y0 y1 y2 y3))
  | 0 => ⟨fun _ _ r h => by simp [psalteryref02_Log.l0] at h, fun _ _ r h => by simp [psalteryref02_Log.l1] at h, fun _ _ _ _ r h => by simp [psalteryref02_Log.l2] at h⟩
  | k + 1 => by
    obtain ⟨ih0, ih1, ih2⟩ := psalteryref02_Log.mono_l k
    refine ⟨?_, ?_, ?_⟩
    · intro y0 y1
      unfold psalteryref02_Log.l0
      repeat' first
      | (with_reducible exact ih0 _ _)
      | (with_reducible exact ih1 _ _)
      | (with_reducible exact ih2 _ _ _ _)
      | (with_reducible exact psalteryref02_Bits.mono _ _)
      | (with_reducible exact LeO.refl _)
      | (with_reducible exact LeO.none _)
      | (with_reducible refine LeO.ite ?_ ?_)
      | (with_reducible refine LeO.bind ?_ (fun _ => ?_))
      | exact ih0 _ _
      | exact ih1 _ _
      | exact ih2 _ _ _ _
      | exact psalteryref02_Bits.mono _ _
      | exact LeO.none _
      | refine LeO.ite ?_ ?_
      | refine LeO.bind ?_ (fun _ => ?_)
    · intro y0 y1
      unfold psalteryref02_Log.l1
      repeat' first
      | (with_reducible exact ih0 _ _)
      | (with_reducible exact ih1 _ _)
      | (with_reducible exact ih2 _ _ _ _)
      | (with_reducible exact psalteryref02_Bits.mono _ _)
      | (with_reducible exact LeO.refl _)
      | (with_reducible exact LeO.none _)
      | (with_reducible refine LeO.ite ?_ ?_)
      | (with_reducible refine LeO.bind ?_ (fun _ => ?_))
      | exact ih0 _ _
      | exact ih1 _ _
      | exact ih2 _ _ _ _
      | exact psalteryref02_Bits.mono _ _
      | exact LeO.none _
      | refine LeO.ite ?_ ?_
      | refine LeO.bind ?_ (fun _ => ?_)
    · intro y0 y1 y2 y3
      unfold psalteryref02_Log.l2
      repeat' first
      | (with_reducible exact ih0 _ _)
      | (with_reducible exact ih1 _ _)
      | (with_reducible exact ih2 _ _ _ _)
      | (with_reducible exact psalteryref02_Bits.mono _ _)
      | (with_reducible exact LeO.refl _)
      | (with_reducible exact LeO.none _)
      | (with_reducible refine LeO.ite ?_ ?_)
      | (with_reducible refine LeO.bind ?_ (fun _ => ?_))
      | exact ih0 _ _
      | exact ih1 _ _
      | exact ih2 _ _ _ _
      | exact psalteryref02_Bits.mono _ _
      | exact LeO.none _
      | refine LeO.ite ?_ ?_
      | refine LeO.bind ?_ (fun _ => ?_)
theorem psalteryref02_Log.mono : ∀ a0 k, LeO (psalteryref02_Log.f k a0) (psalteryref02_Log.f (k + 1) a0) := by
  intro a0 k
  obtain ⟨ih0, ih1, ih2⟩ := psalteryref02_Log.mono_l k
  unfold psalteryref02_Log.f
  repeat' first
      | (with_reducible exact ih0 _ _)
      | (with_reducible exact ih1 _ _)
      | (with_reducible exact ih2 _ _ _ _)
      | (with_reducible exact psalteryref02_Bits.mono _ _)
      | (with_reducible exact LeO.refl _)
      | (with_reducible exact LeO.none _)
      | (with_reducible refine LeO.ite ?_ ?_)
      | (with_reducible refine LeO.bind ?_ (fun _ => ?_))
      | exact ih0 _ _
      | exact ih1 _ _
      | exact ih2 _ _ _ _
      | exact psalteryref02_Bits.mono _ _
      | exact LeO.none _
      | refine LeO.ite ?_ ?_
      | refine LeO.bind ?_ (fun _ => ?_)
set_option maxHeartbeats 8000000 in
set_option maxRecDepth 100000 in
theorem psalteryref02_Log.calls (k : Nat) (a0 : Int) (r1 : Int) (r2 : Int) (w : World) (h : psalteryref02_Log.f k a0 = some (r1, r2)) :
    Calls Tryd.prog 37 #[.int .u64 a0] w fun e w' => e = .returned (.tuple #[.int .i32 r1, .int .i64 r2]) ∧ Drawn0 w w' := by
  have H : (if a0 = 0 then (some (0, 1)) else ((psalteryref02_Bits.f k a0).bind fun t180 => (psalteryref02_Log.l0 k (wrap64 (t180 - 1)) a0))) = some (r1, r2) := h
  clear h
  by_cases c2 : a0 = 0
  · rw [if_pos c2] at H
    have c2b0 : (a0 == 0) = true := beq_iff_eq.mpr c2
    have c2b1 : (a0 != 0) = false := bne_eq_false_iff_eq.mpr c2
    clear c2
    simp only [Option.some.injEq, Prod.mk.injEq] at H
    obtain ⟨rfl, rfl⟩ := H
    go_enter Tryd.func37, Tryd.ntmps37
    go_wp2
    go_ret2
    exact ⟨by first | rfl | (simp; done) | (simp [*]; done), by repeat (first | exact Drawn0.refl _ | apply Drawn0.step)⟩
  · rw [if_neg c2] at H
    have c2b0 : (a0 == 0) = false := beq_eq_false_iff_ne.mpr c2
    have c2b1 : (a0 != 0) = true := bne_iff_ne.mpr c2
    replace H := Option.bind_eq_some_iff.mp H
    obtain ⟨t180, A30, H⟩ := H
    replace H : (psalteryref02_Log.l0 k (wrap64 (t180 - 1)) a0) = some (r1, r2) := H
    have A3 := Aside0.mk A30
    clear A30
    have H' := Aside0.mk H
    clear H
    go_enter Tryd.func37, Tryd.ntmps37
    go_wp2_with (first | ((with_reducible refine gate_callee (f := 55) rfl ?_); refine goesL_ (some 11) rfl rfl Tryd.func55 (by kernel_rfl) rfl #[.int .u64 a0] rfl (by (try simp only [List.map_toArray, List.map_cons, List.map_nil]); first | done | rfl | (simp only [List.length_drop, List.length_take]; rfl)) ?_; (with_reducible refine (psalteryref02_Bits.calls k a0 t180 _ A3.out).mono ?_); rintro e w' ⟨rfl, ⟨nd, rfl⟩⟩; refine ⟨_, rfl, ?_⟩))
    go_loopg [5] k (fun kq v5 w' => ∃ (x5_1 : Int), v5 = .int .u64 x5_1 ∧ Aside0 (psalteryref02_Log.l0 kq (wrap64 (t180 - 1)) x5_1 = some (r1, r2)) ∧ Aside0 (kq ≤ k) ∧ Drawn0 w w')
    case atStart => exact ⟨(a0), (by first | rfl | (simp; done) | (simp [*]; done)), H', ⟨Nat.le_refl _⟩, by repeat (first | exact Drawn0.refl _ | apply Drawn0.step)⟩
    case round =>
      clear H'
      try clear c2
      try clear c2b0
      try clear c2b1
      try clear p2
      try clear c3
      obtain ⟨x5_1, rfl, HA, HK1, ⟨m1, rfl⟩⟩ := hrel
      cases gk with
      | zero => exact absurd HA.out (by simp [psalteryref02_Log.l0])
      | succ k1 =>
        have H := HA.out
        clear HA
        simp only [psalteryref02_Log.l0] at H
        by_cases c4 : x5_1 < 1073741824
        · rw [if_pos c4] at H
          have c4b0 : decide (x5_1 < 1073741824) = true := decide_eq_true c4
          clear c4
          have H' := Aside0.mk H
          clear H
          go_wp2
          go_roundg k1
          case measure => have := HK1.out; omega
          case rel => exact ⟨(IntKind.u64.wrap (x5_1 * 2)), (by first | rfl | (simp; done) | (simp [*]; done)), H', ⟨by have := HK1.out; omega⟩, by repeat (first | exact Drawn0.refl _ | apply Drawn0.step)⟩
        · rw [if_neg c4] at H
          have c4b0 : decide (x5_1 < 1073741824) = false := decide_eq_false c4
          clear c4
          have H' := Aside0.mk H
          clear H
          go_wp2
          go_loopg [5] k1 (fun kq v5 w' => ∃ (x5_2 : Int), v5 = .int .u64 x5_2 ∧ Aside0 (psalteryref02_Log.l1 kq (wrap64 (t180 - 1)) x5_2 = some (r1, r2)) ∧ Aside0 (kq ≤ k1) ∧ Drawn0 w w')
          case atStart => exact ⟨(x5_1), (by first | rfl | (simp; done) | (simp [*]; done)), H', ⟨Nat.le_refl _⟩, by repeat (first | exact Drawn0.refl _ | apply Drawn0.step)⟩
          case round =>
            clear H'
            try clear c2
            try clear c2b0
            try clear c2b1
            try clear p2
            try clear c3
            try clear c4
            try clear c4b0
            try clear p2
            obtain ⟨x5_2, rfl, HA, HK2, ⟨m2, rfl⟩⟩ := hrel
            cases gk with
            | zero => exact absurd HA.out (by simp [psalteryref02_Log.l1])
            | succ k2 =>
              have H := HA.out
              clear HA
              simp only [psalteryref02_Log.l1] at H
              by_cases c5 : x5_2 ≥ 2147483648
              · rw [if_pos c5] at H
                have c5b0 : decide (2147483648 ≤ x5_2) = true := decide_eq_true c5
                clear c5
                have H' := Aside0.mk H
                clear H
                go_wp2
                go_roundg k2
                case measure => have := HK1.out; have := HK2.out; omega
                case rel => exact ⟨(IntKind.u64.wrap (Int.tdiv x5_2 2)), (by first | rfl | (simp; done) | (simp [*]; done)), H', ⟨by have := HK1.out; have := HK2.out; omega⟩, by repeat (first | exact Drawn0.refl _ | apply Drawn0.step)⟩
              · rw [if_neg c5] at H
                have c5b0 : decide (2147483648 ≤ x5_2) = false := decide_eq_false c5
                clear c5
                have H' := Aside0.mk H
                clear H
                go_wp2
                go_loopg [5, 6, 7] k2 (fun kq v5 v6 v7 w' => ∃ (x5_3 : Int) (x6_3 : Int) (x7_3 : Int), v5 = .int .u64 x5_3 ∧ v6 = .int .i64 x6_3 ∧ v7 = .int .i64 x7_3 ∧ Aside0 (psalteryref02_Log.l2 kq (wrap64 (t180 - 1)) x5_3 x6_3 x7_3 = some (r1, r2)) ∧ Aside0 (kq ≤ k2) ∧ Drawn0 w w')
                case atStart => exact ⟨(x5_2), (0), (0), (by first | rfl | (simp; done) | (simp [*]; done)), (by first | rfl | (simp; done) | (simp [*]; done)), (by first | rfl | (simp; done) | (simp [*]; done)), H', ⟨Nat.le_refl _⟩, by repeat (first | exact Drawn0.refl _ | apply Drawn0.step)⟩
                case round =>
                  clear H'
                  try clear c2
                  try clear c2b0
                  try clear c2b1
                  try clear p2
                  try clear c3
                  try clear c4
                  try clear c4b0
                  try clear c5
                  try clear c5b0
                  try clear p2
                  obtain ⟨x5_3, x6_3, x7_3, rfl, rfl, rfl, HA, HK3, ⟨m3, rfl⟩⟩ := hrel
                  cases gk with
                  | zero => exact absurd HA.out (by simp [psalteryref02_Log.l2])
                  | succ k3 =>
                    have H := HA.out
                    clear HA
                    simp only [psalteryref02_Log.l2] at H
                    by_cases c6 : x7_3 < 8
                    · rw [if_pos c6] at H
                      have c6b0 : decide (x7_3 < 8) = true := decide_eq_true c6
                      clear c6
                      by_cases c7 : (IntKind.u64.wrap (Int.tdiv (IntKind.u64.wrap (x5_3 * x5_3)) 1073741824)) ≥ 2147483648
                      · rw [if_pos c7] at H
                        have c7b0 : decide (2147483648 ≤ (IntKind.u64.wrap (Int.tdiv (IntKind.u64.wrap (x5_3 * x5_3)) 1073741824))) = true := decide_eq_true c7
                        clear c7
                        have H' := Aside0.mk H
                        clear H
                        go_wp2
                        go_roundg k3
                        case measure => have := HK1.out; have := HK2.out; have := HK3.out; omega
                        case rel => exact ⟨(IntKind.u64.wrap (Int.tdiv (IntKind.u64.wrap (Int.tdiv (IntKind.u64.wrap (x5_3 * x5_3)) 1073741824)) 2)), (wrap64 ((wrap64 (x6_3 * 2)) + 1)), (wrap64 (x7_3 + 1)), (by first | rfl | (simp; done) | (simp [*]; done)), (by first | rfl | (simp; done) | (simp [*]; done)), (by first | rfl | (simp; done) | (simp [*]; done)), H', ⟨by have := HK1.out; have := HK2.out; have := HK3.out; omega⟩, by repeat (first | exact Drawn0.refl _ | apply Drawn0.step)⟩
                      · rw [if_neg c7] at H
                        have c7b0 : decide (2147483648 ≤ (IntKind.u64.wrap (Int.tdiv (IntKind.u64.wrap (x5_3 * x5_3)) 1073741824))) = false := decide_eq_false c7
                        clear c7
                        have H' := Aside0.mk H
                        clear H
                        go_wp2
                        go_roundg k3
                        case measure => have := HK1.out; have := HK2.out; have := HK3.out; omega
                        case rel => exact ⟨(IntKind.u64.wrap (Int.tdiv (IntKind.u64.wrap (x5_3 * x5_3)) 1073741824)), (wrap64 (x6_3 * 2)), (wrap64 (x7_3 + 1)), (by first | rfl | (simp; done) | (simp [*]; done)), (by first | rfl | (simp; done) | (simp [*]; done)), (by first | rfl | (simp; done) | (simp [*]; done)), H', ⟨by have := HK1.out; have := HK2.out; have := HK3.out; omega⟩, by repeat (first | exact Drawn0.refl _ | apply Drawn0.step)⟩
                    · rw [if_neg c6] at H
                      have c6b0 : decide (x7_3 < 8) = false := decide_eq_false c6
                      clear c6
                      simp only [Option.some.injEq, Prod.mk.injEq] at H
                      obtain ⟨rfl, rfl⟩ := H
                      go_wp2
                      go_ret2
                      exact ⟨by first | rfl | (simp; done) | (simp [*]; done), by repeat (first | exact Drawn0.refl _ | apply Drawn0.step)⟩

/-! ### psalteryref37_Log: function 14 -/
def psalteryref37_Log.f (k : Nat) (a0 : Int) : Option (Int × Int) := (psalteryref02_Log.f k a0).bind fun bt181 => (some (bt181.1, bt181.2))
theorem psalteryref37_Log.mono : ∀ a0 k, LeO (psalteryref37_Log.f k a0) (psalteryref37_Log.f (k + 1) a0) := by
  intro a0 k
  unfold psalteryref37_Log.f
  repeat' first
      | (with_reducible exact psalteryref02_Log.mono _ _)
      | (with_reducible exact LeO.refl _)
      | (with_reducible exact LeO.none _)
      | (with_reducible refine LeO.ite ?_ ?_)
      | (with_reducible refine LeO.bind ?_ (fun _ => ?_))
      | exact psalteryref02_Log.mono _ _
      | exact LeO.none _
      | refine LeO.ite ?_ ?_
      | refine LeO.bind ?_ (fun _ => ?_)
set_option maxHeartbeats 8000000 in
set_option maxRecDepth 100000 in
theorem psalteryref37_Log.calls (k : Nat) (a0 : Int) (r1 : Int) (r2 : Int) (w : World) (h : psalteryref37_Log.f k a0 = some (r1, r2)) :
    Calls Tryd.prog 14 #[.int .u64 a0] w fun e w' => e = .returned (.tuple #[.int .i32 r1, .int .i64 r2]) ∧ Drawn0 w w' := by
  have H : ((psalteryref02_Log.f k a0).bind fun bt181 => (some (bt181.1, bt181.2))) = some (r1, r2) := h
  clear h
  replace H := Option.bind_eq_some_iff.mp H
  obtain ⟨⟨t181, t182⟩, A20, H⟩ := H
  replace H : (some (t181, t182)) = some (r1, r2) := H
  have A2 := Aside0.mk A20
  clear A20
  simp only [Option.some.injEq, Prod.mk.injEq] at H
  obtain ⟨rfl, rfl⟩ := H
  go_enter Tryd.func14, Tryd.ntmps14
  go_wp2_with (first | ((with_reducible refine gate_callee (f := 37) rfl ?_); refine goesL_ (some 5) rfl rfl Tryd.func37 (by kernel_rfl) rfl #[.int .u64 a0] rfl (by (try simp only [List.map_toArray, List.map_cons, List.map_nil]); first | done | rfl | (simp only [List.length_drop, List.length_take]; rfl)) ?_; (with_reducible refine (psalteryref02_Log.calls k a0 t181 t182 _ A2.out).mono ?_); rintro e w' ⟨rfl, ⟨nd, rfl⟩⟩; refine ⟨_, rfl, ?_⟩))
  go_ret2
  exact ⟨by first | rfl | (simp; done) | (simp [*]; done), by repeat (first | exact Drawn0.refl _ | apply Drawn0.step)⟩

/-! ### psalteryref37_Note: function 15 -/
def psalteryref37_Note.l0 : Nat → Int → Int → Int → Option (Int)
  | 0, _, _, _ => none
  | k + 1, x0, x3, x4 => if x4 ≥ 0 then ((psalteryref37_Pitch.f x4).bind fun t183 => ((psalteryref37_Pitch.f x3).bind fun t184 => (if (wrap32 ((wrap32 (x0 - t183)) * (wrap32 (x0 - t183)))) ≤ (wrap32 ((wrap32 (x0 - t184)) * (wrap32 (x0 - t184)))) then (psalteryref37_Note.l0 k x0 x4 (wrap64 (x4 - 1))) else (psalteryref37_Note.l0 k x0 x3 (wrap64 (x4 - 1)))))) else (some x3)
def psalteryref37_Note.f (k : Nat) (a0 : Int) : Option (Int) := psalteryref37_Note.l0 k a0 127 126
theorem psalteryref37_Note.mono_l : ∀ k, (∀ y0 y1 y2, LeO (psalteryref37_Note.l0 k y0 y1 y2) (psalteryref37_Note.l0 (k + 1) y0 y1 y2))
  | 0 => fun _ _ _ r h => by simp [psalteryref37_Note.l0] at h
  | k + 1 => by
    have ih0 := psalteryref37_Note.mono_l k
    · intro y0 y1 y2
      unfold psalteryref37_Note.l0
      repeat' first
      | (with_reducible exact ih0 _ _ _)
      | (with_reducible exact LeO.refl _)
      | (with_reducible exact LeO.none _)
      | (with_reducible refine LeO.ite ?_ ?_)
      | (with_reducible refine LeO.bind ?_ (fun _ => ?_))
      | exact ih0 _ _ _
      | exact LeO.none _
      | refine LeO.ite ?_ ?_
      | refine LeO.bind ?_ (fun _ => ?_)
theorem psalteryref37_Note.mono : ∀ a0 k, LeO (psalteryref37_Note.f k a0) (psalteryref37_Note.f (k + 1) a0) := by
  intro a0 k
  have ih0 := psalteryref37_Note.mono_l k
  unfold psalteryref37_Note.f
  repeat' first
      | (with_reducible exact ih0 _ _ _)
      | (with_reducible exact LeO.refl _)
      | (with_reducible exact LeO.none _)
      | (with_reducible refine LeO.ite ?_ ?_)
      | (with_reducible refine LeO.bind ?_ (fun _ => ?_))
      | exact ih0 _ _ _
      | exact LeO.none _
      | refine LeO.ite ?_ ?_
      | refine LeO.bind ?_ (fun _ => ?_)
set_option maxHeartbeats 8000000 in
set_option maxRecDepth 100000 in
theorem psalteryref37_Note.calls (k : Nat) (a0 : Int) (r : Int) (w : World) (h : psalteryref37_Note.f k a0 = some r) :
    Calls Tryd.prog 15 #[.int .i32 a0] w fun e w' => e = .returned (.int .i64 r) ∧ Drawn0 w w' := by
  have H : (psalteryref37_Note.l0 k a0 127 126) = some r := h
  clear h
  have H' := Aside0.mk H
  clear H
  go_enter Tryd.func15, Tryd.ntmps15
  go_wp2
  go_loopg [3, 4] k (fun kq v3 v4 w' => ∃ (x3_1 : Int) (x4_1 : Int), v3 = .int .i64 x3_1 ∧ v4 = .int .i64 x4_1 ∧ Aside0 (psalteryref37_Note.l0 kq a0 x3_1 x4_1 = some r) ∧ Aside0 (kq ≤ k) ∧ Drawn0 w w')
  case atStart => exact ⟨(127), (126), (by first | rfl | (simp; done) | (simp [*]; done)), (by first | rfl | (simp; done) | (simp [*]; done)), H', ⟨Nat.le_refl _⟩, by repeat (first | exact Drawn0.refl _ | apply Drawn0.step)⟩
  case round =>
    clear H'
    try clear c1
    obtain ⟨x3_1, x4_1, rfl, rfl, HA, HK1, ⟨m1, rfl⟩⟩ := hrel
    cases gk with
    | zero => exact absurd HA.out (by simp [psalteryref37_Note.l0])
    | succ k1 =>
      have H := HA.out
      clear HA
      simp only [psalteryref37_Note.l0] at H
      by_cases c2 : x4_1 ≥ 0
      · rw [if_pos c2] at H
        have c2b0 : decide (0 ≤ x4_1) = true := decide_eq_true c2
        clear c2
        replace H := Option.bind_eq_some_iff.mp H
        obtain ⟨t183, A30, H⟩ := H
        replace H : ((psalteryref37_Pitch.f x3_1).bind fun t184 => (if (wrap32 ((wrap32 (a0 - t183)) * (wrap32 (a0 - t183)))) ≤ (wrap32 ((wrap32 (a0 - t184)) * (wrap32 (a0 - t184)))) then (psalteryref37_Note.l0 k1 a0 x4_1 (wrap64 (x4_1 - 1))) else (psalteryref37_Note.l0 k1 a0 x3_1 (wrap64 (x4_1 - 1))))) = some r := H
        have A3 := Aside0.mk A30
        clear A30
        replace H := Option.bind_eq_some_iff.mp H
        obtain ⟨t184, A40, H⟩ := H
        replace H : (if (wrap32 ((wrap32 (a0 - t183)) * (wrap32 (a0 - t183)))) ≤ (wrap32 ((wrap32 (a0 - t184)) * (wrap32 (a0 - t184)))) then (psalteryref37_Note.l0 k1 a0 x4_1 (wrap64 (x4_1 - 1))) else (psalteryref37_Note.l0 k1 a0 x3_1 (wrap64 (x4_1 - 1)))) = some r := H
        have A4 := Aside0.mk A40
        clear A40
        by_cases c5 : (wrap32 ((wrap32 (a0 - t183)) * (wrap32 (a0 - t183)))) ≤ (wrap32 ((wrap32 (a0 - t184)) * (wrap32 (a0 - t184))))
        · rw [if_pos c5] at H
          have c5b0 : decide ((wrap32 ((wrap32 (a0 - t183)) * (wrap32 (a0 - t183)))) ≤ (wrap32 ((wrap32 (a0 - t184)) * (wrap32 (a0 - t184))))) = true := decide_eq_true c5
          clear c5
          have H' := Aside0.mk H
          clear H
          go_wp2_with (first | ((with_reducible refine gate_callee (f := 11) rfl ?_); refine goesL_ (some 13) rfl rfl Tryd.func11 (by kernel_rfl) rfl #[.int .i64 x4_1] rfl (by (try simp only [List.map_toArray, List.map_cons, List.map_nil]); first | done | rfl | (simp only [List.length_drop, List.length_take]; rfl)) ?_; (with_reducible refine (psalteryref37_Pitch.calls x4_1 t183 _ A3.out).mono ?_); rintro e w' ⟨rfl, ⟨nd, rfl⟩⟩; refine ⟨_, rfl, ?_⟩) | ((with_reducible refine gate_callee (f := 11) rfl ?_); refine goesL_ (some 17) rfl rfl Tryd.func11 (by kernel_rfl) rfl #[.int .i64 x3_1] rfl (by (try simp only [List.map_toArray, List.map_cons, List.map_nil]); first | done | rfl | (simp only [List.length_drop, List.length_take]; rfl)) ?_; (with_reducible refine (psalteryref37_Pitch.calls x3_1 t184 _ A4.out).mono ?_); rintro e w' ⟨rfl, ⟨nd, rfl⟩⟩; refine ⟨_, rfl, ?_⟩))
          go_roundg k1
          case measure => have := HK1.out; omega
          case rel => exact ⟨(x4_1), (wrap64 (x4_1 - 1)), (by first | rfl | (simp; done) | (simp [*]; done)), (by first | rfl | (simp; done) | (simp [*]; done)), H', ⟨by have := HK1.out; omega⟩, by repeat (first | exact Drawn0.refl _ | apply Drawn0.step)⟩
        · rw [if_neg c5] at H
          have c5b0 : decide ((wrap32 ((wrap32 (a0 - t183)) * (wrap32 (a0 - t183)))) ≤ (wrap32 ((wrap32 (a0 - t184)) * (wrap32 (a0 - t184))))) = false := decide_eq_false c5
          clear c5
          have H' := Aside0.mk H
          clear H
          go_wp2_with (first | ((with_reducible refine gate_callee (f := 11) rfl ?_); refine goesL_ (some 13) rfl rfl Tryd.func11 (by kernel_rfl) rfl #[.int .i64 x4_1] rfl (by (try simp only [List.map_toArray, List.map_cons, List.map_nil]); first | done | rfl | (simp only [List.length_drop, List.length_take]; rfl)) ?_; (with_reducible refine (psalteryref37_Pitch.calls x4_1 t183 _ A3.out).mono ?_); rintro e w' ⟨rfl, ⟨nd, rfl⟩⟩; refine ⟨_, rfl, ?_⟩) | ((with_reducible refine gate_callee (f := 11) rfl ?_); refine goesL_ (some 17) rfl rfl Tryd.func11 (by kernel_rfl) rfl #[.int .i64 x3_1] rfl (by (try simp only [List.map_toArray, List.map_cons, List.map_nil]); first | done | rfl | (simp only [List.length_drop, List.length_take]; rfl)) ?_; (with_reducible refine (psalteryref37_Pitch.calls x3_1 t184 _ A4.out).mono ?_); rintro e w' ⟨rfl, ⟨nd, rfl⟩⟩; refine ⟨_, rfl, ?_⟩))
          go_roundg k1
          case measure => have := HK1.out; omega
          case rel => exact ⟨(x3_1), (wrap64 (x4_1 - 1)), (by first | rfl | (simp; done) | (simp [*]; done)), (by first | rfl | (simp; done) | (simp [*]; done)), H', ⟨by have := HK1.out; omega⟩, by repeat (first | exact Drawn0.refl _ | apply Drawn0.step)⟩
      · rw [if_neg c2] at H
        have c2b0 : decide (0 ≤ x4_1) = false := decide_eq_false c2
        clear c2
        obtain rfl := Option.some.inj H
        go_wp2
        go_ret
        exact ⟨by first | rfl | (simp; done) | (simp [*]; done), by repeat (first | exact Drawn0.refl _ | apply Drawn0.step)⟩

/-! ### psalterylaw37_TunerNotes: function 3 -/
mutual
def psalterylaw37_TunerNotes.j0 : Nat → Int → Int → Int → Int → ByteArray → Int → Bool → Option (Bool)
  | 0, _, _, _, _, _, _, _ => none
  | k + 1, x0, x1, x5, x6, x7, x8, x30 => if x30 = true then (if x5 = 0 then (if x7.toList = ([] : List UInt8) then (if x6 = 1 then (if x8 = 1 then (psalterylaw37_TunerNotes.j1 k x1) else (some false)) else (some false)) else (some false)) else (some false)) else (if x6 = 0 then (if x8 = 0 then ((psalteryref37_Pitch.f x0).bind fun t190 => (if x5 = t190 then ((psalteryref37_Name.f x0).bind fun t191 => (if x7.toList = t191.toList then (psalterylaw37_TunerNotes.j1 k x1) else (some false))) else (some false))) else (some false)) else (some false))
def psalterylaw37_TunerNotes.j1 : Nat → Int → Option (Bool)
  | 0, _ => none
  | k + 1, x1 => (tuner_Note.f x1).bind fun bt192 => ((psalteryref37_Log.f k x1).bind fun bt194 => (if bt194.2 = 0 then (if bt192.2 = 0 then ((psalteryref37_Note.f k bt194.1).bind fun t196 => (some (bt192.1 == t196))) else (some false)) else (if bt192.1 = 0 then (some (bt192.2 == bt194.2)) else (some false))))
end
def psalterylaw37_TunerNotes.f (k : Nat) (a0 : Int) (a1 : Int) : Option (Bool) := (psalterylaw37_alive.f).bind fun t185 => (if t185 = true then ((tuner_Pitch.f a0).bind fun bt186 => ((tuner_Name.f a0).bind fun bt188 => (if a0 < 0 then (psalterylaw37_TunerNotes.j0 k a0 a1 bt186.1 bt186.2 bt188.1 bt188.2 true) else (psalterylaw37_TunerNotes.j0 k a0 a1 bt186.1 bt186.2 bt188.1 bt188.2 (decide (a0 > 127)))))) else (some false))
theorem psalterylaw37_TunerNotes.mono_l : ∀ k, (∀ y0 y1 y2 y3 y4 y5 y6, LeO (psalterylaw37_TunerNotes.j0 k y0 y1 y2 y3 y4 y5 y6) (psalterylaw37_TunerNotes.j0 (k + 1) y0 y1 y2 y3 y4 y5 y6)) ∧ (∀ y0, LeO (psalterylaw37_TunerNotes.j1 k y0) (psalterylaw37_TunerNotes.j1 (k + 1) y0))
  | 0 => ⟨fun _ _ _ _ _ _ _ r h => by simp [psalterylaw37_TunerNotes.j0] at h, fun _ r h => by simp [psalterylaw37_TunerNotes.j1] at h⟩
  | k + 1 => by
    obtain ⟨ih0, ih1⟩ := psalterylaw37_TunerNotes.mono_l k
    refine ⟨?_, ?_⟩
    · intro y0 y1 y2 y3 y4 y5 y6
      unfold psalterylaw37_TunerNotes.j0
      repeat' first
      | (with_reducible exact ih0 _ _ _ _ _ _ _)
      | (with_reducible exact ih1 _)
      | (with_reducible exact psalteryref37_Log.mono _ _)
      | (with_reducible exact psalteryref37_Note.mono _ _)
      | (with_reducible exact LeO.refl _)
      | (with_reducible exact LeO.none _)
      | (with_reducible refine LeO.ite ?_ ?_)
      | (with_reducible refine LeO.bind ?_ (fun _ => ?_))
      | exact ih0 _ _ _ _ _ _ _
      | exact ih1 _
      | exact psalteryref37_Log.mono _ _
      | exact psalteryref37_Note.mono _ _
      | exact LeO.none _
      | refine LeO.ite ?_ ?_
      | refine LeO.bind ?_ (fun _ => ?_)
    · intro y0
      unfold psalterylaw37_TunerNotes.j1
      repeat' first
      | (with_reducible exact ih0 _ _ _ _ _ _ _)
      | (with_reducible exact ih1 _)
      | (with_reducible exact psalteryref37_Log.mono _ _)
      | (with_reducible exact psalteryref37_Note.mono _ _)
      | (with_reducible exact LeO.refl _)
      | (with_reducible exact LeO.none _)
      | (with_reducible refine LeO.ite ?_ ?_)
      | (with_reducible refine LeO.bind ?_ (fun _ => ?_))
      | exact ih0 _ _ _ _ _ _ _
      | exact ih1 _
      | exact psalteryref37_Log.mono _ _
      | exact psalteryref37_Note.mono _ _
      | exact LeO.none _
      | refine LeO.ite ?_ ?_
      | refine LeO.bind ?_ (fun _ => ?_)
theorem psalterylaw37_TunerNotes.mono : ∀ a0 a1 k, LeO (psalterylaw37_TunerNotes.f k a0 a1) (psalterylaw37_TunerNotes.f (k + 1) a0 a1) := by
  intro a0 a1 k
  obtain ⟨ih0, ih1⟩ := psalterylaw37_TunerNotes.mono_l k
  unfold psalterylaw37_TunerNotes.f
  repeat' first
      | (with_reducible exact ih0 _ _ _ _ _ _ _)
      | (with_reducible exact ih1 _)
      | (with_reducible exact psalteryref37_Log.mono _ _)
      | (with_reducible exact psalteryref37_Note.mono _ _)
      | (with_reducible exact LeO.refl _)
      | (with_reducible exact LeO.none _)
      | (with_reducible refine LeO.ite ?_ ?_)
      | (with_reducible refine LeO.bind ?_ (fun _ => ?_))
      | exact ih0 _ _ _ _ _ _ _
      | exact ih1 _
      | exact psalteryref37_Log.mono _ _
      | exact psalteryref37_Note.mono _ _
      | exact LeO.none _
      | refine LeO.ite ?_ ?_
      | refine LeO.bind ?_ (fun _ => ?_)
set_option maxHeartbeats 8000000 in
set_option maxRecDepth 100000 in
theorem psalterylaw37_TunerNotes.calls (k : Nat) (a0 : Int) (a1 : Int) (r : Bool) (w : World) (ht : Tab w) (h : psalterylaw37_TunerNotes.f k a0 a1 = some r) :
    Calls Tryd.prog 3 #[.int .i64 a0, .int .u64 a1] w fun e w' => e = .returned (.bool r) ∧ Below w.heap.size w w' := by
  have HT := Aside0.mk ht
  clear ht
  have HB := Aside0.mk (Below.refl w.heap.size w)
  have H : ((psalterylaw37_alive.f).bind fun t185 => (if t185 = true then ((tuner_Pitch.f a0).bind fun bt186 => ((tuner_Name.f a0).bind fun bt188 => (if a0 < 0 then (psalterylaw37_TunerNotes.j0 k a0 a1 bt186.1 bt186.2 bt188.1 bt188.2 true) else (psalterylaw37_TunerNotes.j0 k a0 a1 bt186.1 bt186.2 bt188.1 bt188.2 (decide (a0 > 127)))))) else (some false))) = some r := h
  clear h
  replace H := Option.bind_eq_some_iff.mp H
  obtain ⟨t185, A30, H⟩ := H
  replace H : (if t185 = true then ((tuner_Pitch.f a0).bind fun bt186 => ((tuner_Name.f a0).bind fun bt188 => (if a0 < 0 then (psalterylaw37_TunerNotes.j0 k a0 a1 bt186.1 bt186.2 bt188.1 bt188.2 true) else (psalterylaw37_TunerNotes.j0 k a0 a1 bt186.1 bt186.2 bt188.1 bt188.2 (decide (a0 > 127)))))) else (some false)) = some r := H
  have A3 := Aside0.mk A30
  clear A30
  by_cases c4 : t185 = true
  · subst c4
    have H1 : ((tuner_Pitch.f a0).bind fun bt186 => ((tuner_Name.f a0).bind fun bt188 => (if a0 < 0 then (psalterylaw37_TunerNotes.j0 k a0 a1 bt186.1 bt186.2 bt188.1 bt188.2 true) else (psalterylaw37_TunerNotes.j0 k a0 a1 bt186.1 bt186.2 bt188.1 bt188.2 (decide (a0 > 127)))))) = some r := by rw [if_pos rfl] at H; exact H
    clear H
    have H := H1
    clear H1
    replace H := Option.bind_eq_some_iff.mp H
    obtain ⟨⟨t186, t187⟩, A50, H⟩ := H
    replace H : ((tuner_Name.f a0).bind fun bt188 => (if a0 < 0 then (psalterylaw37_TunerNotes.j0 k a0 a1 t186 t187 bt188.1 bt188.2 true) else (psalterylaw37_TunerNotes.j0 k a0 a1 t186 t187 bt188.1 bt188.2 (decide (a0 > 127))))) = some r := H
    have A5 := Aside0.mk A50
    clear A50
    replace H := Option.bind_eq_some_iff.mp H
    obtain ⟨⟨t188, t189⟩, A60, H⟩ := H
    replace H : (if a0 < 0 then (psalterylaw37_TunerNotes.j0 k a0 a1 t186 t187 t188 t189 true) else (psalterylaw37_TunerNotes.j0 k a0 a1 t186 t187 t188 t189 (decide (a0 > 127)))) = some r := H
    have A6 := Aside0.mk A60
    clear A60
    have HC7 := Aside0.mk H
    clear H
    go_enter Tryd.func3, Tryd.ntmps3
    go_upto_region 5 with (first | ((with_reducible refine gate_callee (f := 8) rfl ?_); refine goesL_ (some 13) rfl rfl Tryd.func8 (by kernel_rfl) rfl #[] rfl (by (try simp only [List.map_toArray, List.map_cons, List.map_nil]); first | done | rfl | (simp only [List.length_drop, List.length_take]; rfl)) ?_; (with_reducible refine (psalterylaw37_alive.calls true _ (tab_below HT.out (by repeat (first | (with_reducible first | exact HB.out | apply below_alloc | apply pw_below_drewN | apply below_drew1) | exact HB.out))) A3.out).mono ?_); rintro e w8 ⟨rfl, hb⟩; refine ⟨_, rfl, ?_⟩; have n0_ := Aside0.mk (below_step (by repeat (first | (with_reducible first | exact HB.out | apply below_alloc | apply pw_below_drewN | apply below_drew1) | exact HB.out)) hb); clear HB; have HB := n0_; clear n0_; (try clear hb); (try clear hb2); (try clear hk); (try clear hi)) | ((with_reducible refine gate_callee (f := 9) rfl ?_); refine goesL_ (some 17) rfl rfl Tryd.func9 (by kernel_rfl) rfl #[.int .i64 a0] rfl (by (try simp only [List.map_toArray, List.map_cons, List.map_nil]); first | done | rfl | (simp only [List.length_drop, List.length_take]; rfl)) ?_; (with_reducible refine (tuner_Pitch.calls a0 t186 t187 _ A5.out).mono ?_); rintro e w' ⟨rfl, ⟨nd, rfl⟩⟩; refine ⟨_, rfl, ?_⟩) | ((with_reducible refine gate_callee (f := 10) rfl ?_); refine goesL_ (some 22) rfl rfl Tryd.func10 (by kernel_rfl) rfl #[.int .i64 a0] rfl (by (try simp only [List.map_toArray, List.map_cons, List.map_nil]); first | done | rfl | (simp only [List.length_drop, List.length_take]; rfl)) ?_; (with_reducible refine (tuner_Name.calls a0 t188 t189 _ (tab_below HT.out (by repeat (first | (with_reducible first | exact HB.out | apply below_alloc | apply pw_below_drewN | apply below_drew1) | exact HB.out))) A6.out).mono ?_); rintro e w9 ⟨rfl, hb⟩; refine ⟨_, rfl, ?_⟩; have n0_ := Aside0.mk (below_step (by repeat (first | (with_reducible first | exact HB.out | apply below_alloc | apply pw_below_drewN | apply below_drew1) | exact HB.out)) hb); clear HB; have HB := n0_; clear n0_; (try clear hb); (try clear hb2); (try clear hk); (try clear hi)))
    (try simp only [Act.put, List.setIfInBounds_toArray, List.set_cons_zero, List.set_cons_succ])
    go_cut [30] (fun v30 wc => ∃ (kq : Nat) (x30_6 : Bool), v30 = .bool x30_6 ∧ Aside0 (psalterylaw37_TunerNotes.j0 kq a0 a1 t186 t187 t188 t189 x30_6 = some r) ∧ Aside0 (kq ≤ k) ∧ Aside0 (Below w.heap.size w wc))
    case first =>
      have H := HC7.out
      clear HC7
      by_cases c10 : a0 < 0
      · rw [if_pos c10] at H
        have c10b0 : decide (a0 < 0) = true := decide_eq_true c10
        clear c10
        (first | rw [c10b0] | (simp only [i64_w, i32_w]; rw [c10b0]) | skip)
        have H' := Aside0.mk H
        clear H
        go_wp2
        go_meet
        case rel => exact ⟨_, (true), (by first | rfl | (simp; done) | (simp [*]; done)), H', ⟨by first | omega | exact Nat.le_refl _⟩, ⟨by repeat (first | (with_reducible first | exact HB.out | apply below_alloc | apply pw_below_drewN | apply below_drew1) | exact HB.out)⟩⟩
      · rw [if_neg c10] at H
        have c10b0 : decide (a0 < 0) = false := decide_eq_false c10
        clear c10
        (first | rw [c10b0] | (simp only [i64_w, i32_w]; rw [c10b0]) | skip)
        have H' := Aside0.mk H
        clear H
        go_wp2
        go_meet
        case rel => exact ⟨_, (decide (a0 > 127)), (by first | rfl | (simp; done) | (simp [*]; done)), H', ⟨by first | omega | exact Nat.le_refl _⟩, ⟨by repeat (first | (with_reducible first | exact HB.out | apply below_alloc | apply pw_below_drewN | apply below_drew1) | exact HB.out)⟩⟩
    case rest =>
      clear HC7
      try clear c1
      try clear p2
      try clear c3
      try clear c4
      try clear c8
      try clear c9
      try clear c10
      try clear c10b0
      obtain ⟨kq, x30_6, rfl, HA, HJ6, HB⟩ := hcut
      cases kq with
      | zero => exact absurd HA.out (by simp [psalterylaw37_TunerNotes.j0])
      | succ kj6 =>
        have H := HA.out
        clear HA
        simp only [psalterylaw37_TunerNotes.j0] at H
        have HC11 := Aside0.mk H
        clear H
        go_upto_if 30 with (fail)
        go_cut [] (fun wc => ∃ (kq : Nat), Aside0 (psalterylaw37_TunerNotes.j1 kq a1 = some r) ∧ Aside0 (kq ≤ kj6) ∧ Aside0 (Below w.heap.size w wc))
        case first =>
          have H := HC11.out
          clear HC11
          by_cases c12 : x30_6 = true
          · subst c12
            have H1 : (if t186 = 0 then (if t188.toList = ([] : List UInt8) then (if t187 = 1 then (if t189 = 1 then (psalterylaw37_TunerNotes.j1 kj6 a1) else (some false)) else (some false)) else (some false)) else (some false)) = some r := by rw [if_pos rfl] at H; exact H
            clear H
            have H := H1
            clear H1
            by_cases c13 : t186 = 0
            · rw [if_pos c13] at H
              have c13b0 : (t186 == 0) = true := beq_iff_eq.mpr c13
              have c13b1 : (t186 != 0) = false := bne_eq_false_iff_eq.mpr c13
              clear c13
              (first | rw [c13b0] | (simp only [i64_w, i32_w]; rw [c13b0]) | skip)
              by_cases c14 : t188.toList = ([] : List UInt8)
              · rw [if_pos c14] at H
                have c14b0 : (t188.toList == ([] : List UInt8)) = true := beq_iff_eq.mpr c14
                have c14b1 : (t188.toList != ([] : List UInt8)) = false := bne_eq_false_iff_eq.mpr c14
                clear c14
                by_cases c15 : t187 = 1
                · rw [if_pos c15] at H
                  have c15b0 : (t187 == 1) = true := beq_iff_eq.mpr c15
                  have c15b1 : (t187 != 1) = false := bne_eq_false_iff_eq.mpr c15
                  clear c15
                  by_cases c16 : t189 = 1
                  · rw [if_pos c16] at H
                    have c16b0 : (t189 == 1) = true := beq_iff_eq.mpr c16
                    have c16b1 : (t189 != 1) = false := bne_eq_false_iff_eq.mpr c16
                    clear c16
                    have H' := Aside0.mk H
                    clear H
                    go_wp2
                    go_meet
                    case rel => exact ⟨_, H', ⟨by have := HJ6.out; first | omega | exact Nat.le_refl _⟩, ⟨by repeat (first | (with_reducible first | exact HB.out | apply below_alloc | apply pw_below_drewN | apply below_drew1) | exact HB.out)⟩⟩
                  · rw [if_neg c16] at H
                    have c16b0 : (t189 == 1) = false := beq_eq_false_iff_ne.mpr c16
                    have c16b1 : (t189 != 1) = true := bne_iff_ne.mpr c16
                    obtain rfl := Option.some.inj H
                    go_wp2
                    go_ret
                    exact ⟨by first | rfl | (simp [errW_none, errW_some] <;> rfl) | (simp [*, errW_none, errW_some] <;> rfl), by repeat (first | (with_reducible first | exact HB.out | apply below_alloc | apply pw_below_drewN | apply below_drew1) | exact HB.out)⟩
                · rw [if_neg c15] at H
                  have c15b0 : (t187 == 1) = false := beq_eq_false_iff_ne.mpr c15
                  have c15b1 : (t187 != 1) = true := bne_iff_ne.mpr c15
                  obtain rfl := Option.some.inj H
                  go_wp2
                  go_ret
                  exact ⟨by first | rfl | (simp [errW_none, errW_some] <;> rfl) | (simp [*, errW_none, errW_some] <;> rfl), by repeat (first | (with_reducible first | exact HB.out | apply below_alloc | apply pw_below_drewN | apply below_drew1) | exact HB.out)⟩
              · rw [if_neg c14] at H
                have c14b0 : (t188.toList == ([] : List UInt8)) = false := beq_eq_false_iff_ne.mpr c14
                have c14b1 : (t188.toList != ([] : List UInt8)) = true := bne_iff_ne.mpr c14
                obtain rfl := Option.some.inj H
                go_wp2
                go_ret
                exact ⟨by first | rfl | (simp [errW_none, errW_some] <;> rfl) | (simp [*, errW_none, errW_some] <;> rfl), by repeat (first | (with_reducible first | exact HB.out | apply below_alloc | apply pw_below_drewN | apply below_drew1) | exact HB.out)⟩
            · rw [if_neg c13] at H
              have c13b0 : (t186 == 0) = false := beq_eq_false_iff_ne.mpr c13
              have c13b1 : (t186 != 0) = true := bne_iff_ne.mpr c13
              (first | rw [c13b0] | (simp only [i64_w, i32_w]; rw [c13b0]) | skip)
              obtain rfl := Option.some.inj H
              go_wp2
              go_ret
              exact ⟨by first | rfl | (simp [errW_none, errW_some] <;> rfl) | (simp [*, errW_none, errW_some] <;> rfl), by repeat (first | (with_reducible first | exact HB.out | apply below_alloc | apply pw_below_drewN | apply below_drew1) | exact HB.out)⟩
          · replace c12 := Bool.eq_false_iff.mpr c12
            subst c12
            have H1 : (if t187 = 0 then (if t189 = 0 then ((psalteryref37_Pitch.f a0).bind fun t190 => (if t186 = t190 then ((psalteryref37_Name.f a0).bind fun t191 => (if t188.toList = t191.toList then (psalterylaw37_TunerNotes.j1 kj6 a1) else (some false))) else (some false))) else (some false)) else (some false)) = some r := by rw [if_neg (show ¬ (false = true) by decide)] at H; exact H
            clear H
            have H := H1
            clear H1
            by_cases c17 : t187 = 0
            · rw [if_pos c17] at H
              have c17b0 : (t187 == 0) = true := beq_iff_eq.mpr c17
              have c17b1 : (t187 != 0) = false := bne_eq_false_iff_eq.mpr c17
              clear c17
              by_cases c18 : t189 = 0
              · rw [if_pos c18] at H
                have c18b0 : (t189 == 0) = true := beq_iff_eq.mpr c18
                have c18b1 : (t189 != 0) = false := bne_eq_false_iff_eq.mpr c18
                clear c18
                replace H := Option.bind_eq_some_iff.mp H
                obtain ⟨t190, A190, H⟩ := H
                replace H : (if t186 = t190 then ((psalteryref37_Name.f a0).bind fun t191 => (if t188.toList = t191.toList then (psalterylaw37_TunerNotes.j1 kj6 a1) else (some false))) else (some false)) = some r := H
                have A19 := Aside0.mk A190
                clear A190
                by_cases c20 : t186 = t190
                · rw [if_pos c20] at H
                  have c20b0 : (t186 == t190) = true := beq_iff_eq.mpr c20
                  have c20b1 : (t186 != t190) = false := bne_eq_false_iff_eq.mpr c20
                  clear c20
                  replace H := Option.bind_eq_some_iff.mp H
                  obtain ⟨t191, A210, H⟩ := H
                  replace H : (if t188.toList = t191.toList then (psalterylaw37_TunerNotes.j1 kj6 a1) else (some false)) = some r := H
                  have A21 := Aside0.mk A210
                  clear A210
                  by_cases c22 : t188.toList = t191.toList
                  · rw [if_pos c22] at H
                    have c22b0 : (t188.toList == t191.toList) = true := beq_iff_eq.mpr c22
                    have c22b1 : (t188.toList != t191.toList) = false := bne_eq_false_iff_eq.mpr c22
                    clear c22
                    have H' := Aside0.mk H
                    clear H
                    go_wp2_with (first | (go_at_call 11; (with_reducible refine (psalteryref37_Pitch.calls a0 t190 _ A19.out).mono ?_); rintro e w' ⟨rfl, ⟨nd, rfl⟩⟩) | (go_at_call 12; (with_reducible refine (psalteryref37_Name.calls a0 t191 _ A21.out).mono ?_); rintro e w' ⟨rfl, ⟨nd, rfl⟩⟩))
                    go_meet
                    case rel => exact ⟨_, H', ⟨by have := HJ6.out; first | omega | exact Nat.le_refl _⟩, ⟨by repeat (first | (with_reducible first | exact HB.out | apply below_alloc | apply pw_below_drewN | apply below_drew1) | exact HB.out)⟩⟩
                  · rw [if_neg c22] at H
                    have c22b0 : (t188.toList == t191.toList) = false := beq_eq_false_iff_ne.mpr c22
                    have c22b1 : (t188.toList != t191.toList) = true := bne_iff_ne.mpr c22
                    obtain rfl := Option.some.inj H
                    go_wp2_with (first | (go_at_call 11; (with_reducible refine (psalteryref37_Pitch.calls a0 t190 _ A19.out).mono ?_); rintro e w' ⟨rfl, ⟨nd, rfl⟩⟩) | (go_at_call 12; (with_reducible refine (psalteryref37_Name.calls a0 t191 _ A21.out).mono ?_); rintro e w' ⟨rfl, ⟨nd, rfl⟩⟩))
                    go_ret
                    exact ⟨by first | rfl | (simp [errW_none, errW_some] <;> rfl) | (simp [*, errW_none, errW_some] <;> rfl), by repeat (first | (with_reducible first | exact HB.out | apply below_alloc | apply pw_below_drewN | apply below_drew1) | exact HB.out)⟩
                · rw [if_neg c20] at H
                  have c20b0 : (t186 == t190) = false := beq_eq_false_iff_ne.mpr c20
                  have c20b1 : (t186 != t190) = true := bne_iff_ne.mpr c20
                  obtain rfl := Option.some.inj H
                  go_wp2_with (first | (go_at_call 11; (with_reducible refine (psalteryref37_Pitch.calls a0 t190 _ A19.out).mono ?_); rintro e w' ⟨rfl, ⟨nd, rfl⟩⟩))
                  go_ret
                  exact ⟨by first | rfl | (simp [errW_none, errW_some] <;> rfl) | (simp [*, errW_none, errW_some] <;> rfl), by repeat (first | (with_reducible first | exact HB.out | apply below_alloc | apply pw_below_drewN | apply below_drew1) | exact HB.out)⟩
              · rw [if_neg c18] at H
                have c18b0 : (t189 == 0) = false := beq_eq_false_iff_ne.mpr c18
                have c18b1 : (t189 != 0) = true := bne_iff_ne.mpr c18
                obtain rfl := Option.some.inj H
                go_wp2
                go_ret
                exact ⟨by first | rfl | (simp [errW_none, errW_some] <;> rfl) | (simp [*, errW_none, errW_some] <;> rfl), by repeat (first | (with_reducible first | exact HB.out | apply below_alloc | apply pw_below_drewN | apply below_drew1) | exact HB.out)⟩
            · rw [if_neg c17] at H
              have c17b0 : (t187 == 0) = false := beq_eq_false_iff_ne.mpr c17
              have c17b1 : (t187 != 0) = true := bne_iff_ne.mpr c17
              obtain rfl := Option.some.inj H
              go_wp2
              go_ret
              exact ⟨by first | rfl | (simp [errW_none, errW_some] <;> rfl) | (simp [*, errW_none, errW_some] <;> rfl), by repeat (first | (with_reducible first | exact HB.out | apply below_alloc | apply pw_below_drewN | apply below_drew1) | exact HB.out)⟩
        case rest =>
          clear HC11
          try clear c1
          try clear c2
          try clear p2
          try clear c3
          try clear c4
          try clear c8
          try clear c9
          try clear c10
          try clear c10b0
          try clear c12
          try clear c13
          try clear c13b0
          try clear c13b1
          try clear c14
          try clear c14b0
          try clear c14b1
          try clear c15
          try clear c15b0
          try clear c15b1
          try clear c16
          try clear c16b0
          try clear c16b1
          try clear c17
          try clear c17b0
          try clear c17b1
          try clear c18
          try clear c18b0
          try clear c18b1
          try clear c20
          try clear c20b0
          try clear c20b1
          try clear c22
          try clear c22b0
          try clear c22b1
          try clear p2
          obtain ⟨kq, HA, HJ10, HB⟩ := hcut
          cases kq with
          | zero => exact absurd HA.out (by simp [psalterylaw37_TunerNotes.j1])
          | succ kj10 =>
            have H := HA.out
            clear HA
            simp only [psalterylaw37_TunerNotes.j1] at H
            replace H := Option.bind_eq_some_iff.mp H
            obtain ⟨⟨t192, t193⟩, A230, H⟩ := H
            replace H : ((psalteryref37_Log.f kj10 a1).bind fun bt194 => (if bt194.2 = 0 then (if t193 = 0 then ((psalteryref37_Note.f kj10 bt194.1).bind fun t196 => (some (t192 == t196))) else (some false)) else (if t192 = 0 then (some (t193 == bt194.2)) else (some false)))) = some r := H
            have A23 := Aside0.mk A230
            clear A230
            replace H := Option.bind_eq_some_iff.mp H
            obtain ⟨⟨t194, t195⟩, A240, H⟩ := H
            replace H : (if t195 = 0 then (if t193 = 0 then ((psalteryref37_Note.f kj10 t194).bind fun t196 => (some (t192 == t196))) else (some false)) else (if t192 = 0 then (some (t193 == t195)) else (some false))) = some r := H
            have A24 := Aside0.mk A240
            clear A240
            by_cases c25 : t195 = 0
            · rw [if_pos c25] at H
              have c25b0 : (t195 == 0) = true := beq_iff_eq.mpr c25
              have c25b1 : (t195 != 0) = false := bne_eq_false_iff_eq.mpr c25
              clear c25
              by_cases c26 : t193 = 0
              · rw [if_pos c26] at H
                have c26b0 : (t193 == 0) = true := beq_iff_eq.mpr c26
                have c26b1 : (t193 != 0) = false := bne_eq_false_iff_eq.mpr c26
                clear c26
                replace H := Option.bind_eq_some_iff.mp H
                obtain ⟨t196, A270, H⟩ := H
                replace H : (some (t192 == t196)) = some r := H
                have A27 := Aside0.mk A270
                clear A270
                obtain rfl := Option.some.inj H
                go_wp2_with (first | ((with_reducible refine gate_callee (f := 13) rfl ?_); refine goesL_ (some 65) rfl rfl Tryd.func13 (by kernel_rfl) rfl #[.int .u64 a1] rfl (by (try simp only [List.map_toArray, List.map_cons, List.map_nil]); first | done | rfl | (simp only [List.length_drop, List.length_take]; rfl)) ?_; (with_reducible refine (tuner_Note.calls a1 t192 t193 _ A23.out).mono ?_); rintro e w28 ⟨rfl, hb⟩; refine ⟨_, rfl, ?_⟩; have n0_ := Aside0.mk (below_step (by repeat (first | (with_reducible first | exact HB.out | apply below_alloc | apply pw_below_drewN | apply below_drew1) | exact HB.out)) hb); clear HB; have HB := n0_; clear n0_; (try clear hb); (try clear hb2); (try clear hk); (try clear hi)) | ((with_reducible refine gate_callee (f := 14) rfl ?_); refine goesL_ (some 70) rfl rfl Tryd.func14 (by kernel_rfl) rfl #[.int .u64 a1] rfl (by (try simp only [List.map_toArray, List.map_cons, List.map_nil]); first | done | rfl | (simp only [List.length_drop, List.length_take]; rfl)) ?_; (with_reducible refine (psalteryref37_Log.calls kj10 a1 t194 t195 _ A24.out).mono ?_); rintro e w' ⟨rfl, ⟨nd, rfl⟩⟩; refine ⟨_, rfl, ?_⟩) | (go_at_call 15; (with_reducible refine (psalteryref37_Note.calls kj10 t194 t196 _ A27.out).mono ?_); rintro e w' ⟨rfl, ⟨nd, rfl⟩⟩))
                go_ret
                exact ⟨by first | rfl | (simp [errW_none, errW_some] <;> rfl) | (simp [*, errW_none, errW_some] <;> rfl), by repeat (first | (with_reducible first | exact HB.out | apply below_alloc | apply pw_below_drewN | apply below_drew1) | exact HB.out)⟩
              · rw [if_neg c26] at H
                have c26b0 : (t193 == 0) = false := beq_eq_false_iff_ne.mpr c26
                have c26b1 : (t193 != 0) = true := bne_iff_ne.mpr c26
                obtain rfl := Option.some.inj H
                go_wp2_with (first | ((with_reducible refine gate_callee (f := 13) rfl ?_); refine goesL_ (some 65) rfl rfl Tryd.func13 (by kernel_rfl) rfl #[.int .u64 a1] rfl (by (try simp only [List.map_toArray, List.map_cons, List.map_nil]); first | done | rfl | (simp only [List.length_drop, List.length_take]; rfl)) ?_; (with_reducible refine (tuner_Note.calls a1 t192 t193 _ A23.out).mono ?_); rintro e w29 ⟨rfl, hb⟩; refine ⟨_, rfl, ?_⟩; have n0_ := Aside0.mk (below_step (by repeat (first | (with_reducible first | exact HB.out | apply below_alloc | apply pw_below_drewN | apply below_drew1) | exact HB.out)) hb); clear HB; have HB := n0_; clear n0_; (try clear hb); (try clear hb2); (try clear hk); (try clear hi)) | ((with_reducible refine gate_callee (f := 14) rfl ?_); refine goesL_ (some 70) rfl rfl Tryd.func14 (by kernel_rfl) rfl #[.int .u64 a1] rfl (by (try simp only [List.map_toArray, List.map_cons, List.map_nil]); first | done | rfl | (simp only [List.length_drop, List.length_take]; rfl)) ?_; (with_reducible refine (psalteryref37_Log.calls kj10 a1 t194 t195 _ A24.out).mono ?_); rintro e w' ⟨rfl, ⟨nd, rfl⟩⟩; refine ⟨_, rfl, ?_⟩))
                go_ret
                exact ⟨by first | rfl | (simp [errW_none, errW_some] <;> rfl) | (simp [*, errW_none, errW_some] <;> rfl), by repeat (first | (with_reducible first | exact HB.out | apply below_alloc | apply pw_below_drewN | apply below_drew1) | exact HB.out)⟩
            · rw [if_neg c25] at H
              have c25b0 : (t195 == 0) = false := beq_eq_false_iff_ne.mpr c25
              have c25b1 : (t195 != 0) = true := bne_iff_ne.mpr c25
              by_cases c30 : t192 = 0
              · rw [if_pos c30] at H
                have c30b0 : (t192 == 0) = true := beq_iff_eq.mpr c30
                have c30b1 : (t192 != 0) = false := bne_eq_false_iff_eq.mpr c30
                clear c30
                obtain rfl := Option.some.inj H
                go_wp2_with (first | ((with_reducible refine gate_callee (f := 13) rfl ?_); refine goesL_ (some 65) rfl rfl Tryd.func13 (by kernel_rfl) rfl #[.int .u64 a1] rfl (by (try simp only [List.map_toArray, List.map_cons, List.map_nil]); first | done | rfl | (simp only [List.length_drop, List.length_take]; rfl)) ?_; (with_reducible refine (tuner_Note.calls a1 t192 t193 _ A23.out).mono ?_); rintro e w31 ⟨rfl, hb⟩; refine ⟨_, rfl, ?_⟩; have n0_ := Aside0.mk (below_step (by repeat (first | (with_reducible first | exact HB.out | apply below_alloc | apply pw_below_drewN | apply below_drew1) | exact HB.out)) hb); clear HB; have HB := n0_; clear n0_; (try clear hb); (try clear hb2); (try clear hk); (try clear hi)) | ((with_reducible refine gate_callee (f := 14) rfl ?_); refine goesL_ (some 70) rfl rfl Tryd.func14 (by kernel_rfl) rfl #[.int .u64 a1] rfl (by (try simp only [List.map_toArray, List.map_cons, List.map_nil]); first | done | rfl | (simp only [List.length_drop, List.length_take]; rfl)) ?_; (with_reducible refine (psalteryref37_Log.calls kj10 a1 t194 t195 _ A24.out).mono ?_); rintro e w' ⟨rfl, ⟨nd, rfl⟩⟩; refine ⟨_, rfl, ?_⟩))
                go_ret
                exact ⟨by first | rfl | (simp [errW_none, errW_some] <;> rfl) | (simp [*, errW_none, errW_some] <;> rfl), by repeat (first | (with_reducible first | exact HB.out | apply below_alloc | apply pw_below_drewN | apply below_drew1) | exact HB.out)⟩
              · rw [if_neg c30] at H
                have c30b0 : (t192 == 0) = false := beq_eq_false_iff_ne.mpr c30
                have c30b1 : (t192 != 0) = true := bne_iff_ne.mpr c30
                obtain rfl := Option.some.inj H
                go_wp2_with (first | ((with_reducible refine gate_callee (f := 13) rfl ?_); refine goesL_ (some 65) rfl rfl Tryd.func13 (by kernel_rfl) rfl #[.int .u64 a1] rfl (by (try simp only [List.map_toArray, List.map_cons, List.map_nil]); first | done | rfl | (simp only [List.length_drop, List.length_take]; rfl)) ?_; (with_reducible refine (tuner_Note.calls a1 t192 t193 _ A23.out).mono ?_); rintro e w32 ⟨rfl, hb⟩; refine ⟨_, rfl, ?_⟩; have n0_ := Aside0.mk (below_step (by repeat (first | (with_reducible first | exact HB.out | apply below_alloc | apply pw_below_drewN | apply below_drew1) | exact HB.out)) hb); clear HB; have HB := n0_; clear n0_; (try clear hb); (try clear hb2); (try clear hk); (try clear hi)) | ((with_reducible refine gate_callee (f := 14) rfl ?_); refine goesL_ (some 70) rfl rfl Tryd.func14 (by kernel_rfl) rfl #[.int .u64 a1] rfl (by (try simp only [List.map_toArray, List.map_cons, List.map_nil]); first | done | rfl | (simp only [List.length_drop, List.length_take]; rfl)) ?_; (with_reducible refine (psalteryref37_Log.calls kj10 a1 t194 t195 _ A24.out).mono ?_); rintro e w' ⟨rfl, ⟨nd, rfl⟩⟩; refine ⟨_, rfl, ?_⟩))
                go_ret
                exact ⟨by first | rfl | (simp [errW_none, errW_some] <;> rfl) | (simp [*, errW_none, errW_some] <;> rfl), by repeat (first | (with_reducible first | exact HB.out | apply below_alloc | apply pw_below_drewN | apply below_drew1) | exact HB.out)⟩
  · replace c4 := Bool.eq_false_iff.mpr c4
    subst c4
    have H1 : (some false) = some r := by rw [if_neg (show ¬ (false = true) by decide)] at H; exact H
    clear H
    have H := H1
    clear H1
    obtain rfl := Option.some.inj H
    go_enter Tryd.func3, Tryd.ntmps3
    go_wp2_with (first | ((with_reducible refine gate_callee (f := 8) rfl ?_); refine goesL_ (some 13) rfl rfl Tryd.func8 (by kernel_rfl) rfl #[] rfl (by (try simp only [List.map_toArray, List.map_cons, List.map_nil]); first | done | rfl | (simp only [List.length_drop, List.length_take]; rfl)) ?_; (with_reducible refine (psalterylaw37_alive.calls false _ (tab_below HT.out (by repeat (first | (with_reducible first | exact HB.out | apply below_alloc | apply pw_below_drewN | apply below_drew1) | exact HB.out))) A3.out).mono ?_); rintro e w33 ⟨rfl, hb⟩; refine ⟨_, rfl, ?_⟩; have n0_ := Aside0.mk (below_step (by repeat (first | (with_reducible first | exact HB.out | apply below_alloc | apply pw_below_drewN | apply below_drew1) | exact HB.out)) hb); clear HB; have HB := n0_; clear n0_; (try clear hb); (try clear hb2); (try clear hk); (try clear hi)))
    go_ret
    exact ⟨by first | rfl | (simp [errW_none, errW_some] <;> rfl) | (simp [*, errW_none, errW_some] <;> rfl), by repeat (first | (with_reducible first | exact HB.out | apply below_alloc | apply pw_below_drewN | apply below_drew1) | exact HB.out)⟩

/-- THE ONE PURE STATEMENT of psalterylaw37_TunerNotes: yours. -/
def psalterylaw37_TunerNotes.Pure : Prop := ∀ (a0 : Int) (a1 : Int), (Lit.int .i64 a0).wf = true → (Lit.int .u64 a1).wf = true → ∃ k, psalterylaw37_TunerNotes.f k a0 a1 = some true
theorem psalterylaw37_TunerNotes.walk (P : psalterylaw37_TunerNotes.Pure) (a0 : Int) (a1 : Int) (w : World) (ht : Tab w) (w0 : (Lit.int .i64 a0).wf = true) (w1 : (Lit.int .u64 a1).wf = true) :
    Calls Tryd.prog 3 #[.int .i64 a0, .int .u64 a1] w fun e w' => e = .returned (.bool true) ∧ Below w.heap.size w w' := by
  obtain ⟨k, h⟩ := P a0 a1 w0 w1
  refine (psalterylaw37_TunerNotes.calls k a0 a1 true w ht h).mono ?_
  rintro e w' ⟨rfl, hd⟩
  exact ⟨rfl, hd⟩

end Go.Proofs.YtiiebkfeodmefaaDoor.PTuner
