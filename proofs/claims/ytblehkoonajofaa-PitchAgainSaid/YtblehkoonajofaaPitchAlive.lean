/- Pitch: the example of the chapter, and the law PitchNil walked. -/
import Derived.Test.YtblehkoonajofaaPitchNums
import Derived.Test.YtblehkoonajofaaLogsBasePitch
import Derived.Test.YtblehkoonajofaaRefLogsPitch
namespace Go.Proofs.Ytblehkoonajofaa.PPitch
open Go.RowKit Go.Proofs.YtblehkoonajofaaW.PrintWords Go.Proofs.YtblehkoonajofaaW.PrintLast Go.Proofs.YtblehkoonajofaaW.PrintMore
open Go.Proofs.Ytblehkoonajofaa.Num (rnd sat16 sat32 clip)
attribute [local go_sem] max2_int min2_int max_two min_two max_three min_three max_four min_four   -- for this text's walks alone
set_option linter.unusedVariables false
set_option linter.unusedSimpArgs false
set_option maxHeartbeats 4000000 in
set_option maxRecDepth 100000 in
theorem psalterylaw18_alive.holds (w : World) : Calls Try.prog 13 #[] w fun e w' => e = .returned (.bool true) ∧ Below w.heap.size w w' := by
  have hmk : ∀ W : World, (Instr.makeSlice 27 (.int .i64 80) (.int .i64 80)).run Try.prog W = .ok (.slice (some ⟨W.heap.size, 0, none⟩) 80 80) (W.alloc (.cells (nums .i16 (pul 0)).toArray 33)) := fun W => by
    rw [pul0, ← made_nums]; exact print_make 27 33 .i16 2 Try.underlying27 info33 (by decide) 80 (by omega) W
  have hu29 := Try.underlying29
  have tok1 : True := trivial
  have tok2 : 1 = 1 := rfl
  go_enter Try.func13, Try.ntmps13
  go_wp2_with (first | (go_at_call 14; refine (pitch_NewHunter.calls _).mono ?_; rintro e w1 ⟨rfl, g1, g2⟩; have HP1 := Aside0.mk g1; have HB1 := Aside0.mk g2; clear g1 g2) | (go_at_call 15; refine (pitch_Hunter_Feed.calls w.heap.size (some ⟨w1.heap.size, 0, none⟩) 80 80 (List.replicate 79 0) (pul 0) (List.replicate 159 0) 0 50 _ ⟨((below_alloc (Below.refl _ _) _).block _ (blk_lt HP1.out.1)).trans HP1.out.1, by simp⟩ (blk_reads (blk_new _ _) (pul_length 0) (by decide)) (by decide) (by rw [pul0]; exact i16_zeros 80) (by rw [pul0]; simp) (str_zeros 159 80)).mono ?_; rintro e w2 ⟨rfl, g1, g2⟩; have HP2 := Aside0.mk (show Past w2 w.heap.size 86 (List.replicate 79 0) from by simpa using g1); have HB2 := Aside0.mk (g2.below (below_alloc HB1.out _) (below_size (below_alloc HB1.out _)) (Nat.le_refl _)); clear g1 g2))
  have HA := Aside0.mk (show AInv w ((w2.alloc (.cells #[.int .i64 0, .int .i64 0] 29)).alloc (.cells (nums .i16 (pul 0)).toArray 33)) w.heap.size w2.heap.size (w2.heap.size + 1) (List.replicate 79 0) (pul 0) from
    ⟨⟨((below_alloc (below_alloc (Below.refl w2.heap.size w2) _) _).block _ (blk_lt HP2.out.1)).trans HP2.out.1, HP2.out.2⟩, (two_new w2 _ _).1, (two_new w2 _ _).2, below_alloc (below_alloc HB2.out _) _, Nat.le_refl _⟩)
  have HGE := Aside0.mk (show w.heap.size ≤ w2.heap.size + 1 from by have := below_size HB2.out; omega)
  go_loopg [5] 5 (fun kq v5 wx => ∃ k : Nat, v5 = .int .i64 (20 * (k : Int)) ∧ Aside0 (kq + k = 5 ∧ k ≤ 4) ∧ Aside0 (AInv w wx w.heap.size w2.heap.size (w2.heap.size + 1) (List.replicate 79 0) (pul k)))
  case atStart => exact ⟨0, rfl, ⟨rfl, by decide⟩, HA⟩
  case round =>
    clear HA
    obtain ⟨k, rfl, HK, HA⟩ := hrel
    by_cases hk : k < 4
    · have b0 : decide (20 * (k : Int) < 80) = true := decide_eq_true (by omega)
      have b1 : (20 * (k : Int) < 80) = True := eq_true (by omega)
      have b2 : (0 : Int) ≤ 20 * (k : Int) := by omega
      have ht : (20 * (k : Int)).toNat = 20 * k := by omega
      have hc := nums_at HA.out.xx (i := 20 * k) (by rw [pul_length]; omega)
      have hf : wr.frozen? ⟨w2.heap.size + 1, 20 * k, none⟩ = false := blk_frozen HA.out.xx _
      have hw : wrap64 (20 * (k : Int) + 20) = 20 * ((k + 1 : Nat) : Int) := by unfold wrap64; omega
      have HKK := Aside0.mk hk
      clear hk
      go_wp2
      go_roundg (gk - 1)
      case rel => exact ⟨k + 1, by first | rw [hw] | (congr 1; omega), ⟨by have := HK.out; have := HKK.out; omega, by have := HKK.out; omega⟩, ⟨by have h_ := HA.out.set HGE.out (20 * k) 1000; rwa [pul_next ⟨k, HKK.out⟩] at h_⟩⟩
      case measure => have := HK.out; have := HKK.out; omega
    · obtain rfl : k = 4 := by have := HK.out; omega
      clear hk
      have HA4 := Aside0.mk (show AInv w wr w.heap.size w2.heap.size (w2.heap.size + 1) (List.replicate 79 0) pulse from pul4 ▸ HA.out)
      clear HA
      go_wp2_with (first | (go_at_call 15; have _t := tok1; refine (pitch_Hunter_Feed.calls w.heap.size (some ⟨w2.heap.size + 1, 0, none⟩) 80 80 (List.replicate 79 0) pulse pulse1 2 50 _ HA4.out.pp (blk_reads HA4.out.xx (pul4 ▸ pul_length 4) (by decide)) (by decide) i16_pulse rfl str_pulse1).mono ?_; rintro e w3 ⟨rfl, g1, g2⟩; have HA5 := Aside0.mk (HA4.out.feed (show Past w3 w.heap.size 86 (pulse.drop 1) from g1) g2); clear _t tok1 g1 g2) | (go_at_call 15; have _t := tok2; refine (pitch_Hunter_Feed.calls w.heap.size (some ⟨w2.heap.size + 1, 0, none⟩) 80 80 (pulse.drop 1) pulse pulse2 3 50 _ HA5.out.pp (blk_reads HA5.out.xx (pul4 ▸ pul_length 4) (by decide)) (by decide) i16_pulse rfl str_pulse2).mono ?_; rw [t3]; rintro e w4 ⟨rfl, g1, g2⟩; have HA6 := Aside0.mk (HA5.out.feed g1 g2); have k0 : ∀ o, (w4.alloc o).cell? ⟨w2.heap.size, 0, none⟩ = some (.int .i64 0) := (fun o => ((below_alloc (Below.refl _ _) o).cell (p := ⟨w2.heap.size, 0, none⟩) (blk_lt HA6.out.vp)).trans (by rw [blk_cell HA6.out.vp]; rfl)); have k1 : ∀ o, (w4.alloc o).cell? ⟨w2.heap.size, 1, none⟩ = some (.int .i64 0) := (fun o => ((below_alloc (Below.refl _ _) o).cell (p := ⟨w2.heap.size, 1, none⟩) (blk_lt HA6.out.vp)).trans (by rw [blk_cell HA6.out.vp]; rfl)); clear _t g1 g2))
      repeat (go_quiet (fail); try go_wp2)
      go_ret
      exact ⟨rfl, below_alloc HA6.out.be _⟩
set_option maxHeartbeats 4000000 in
theorem psalterylaw18_PitchNil.calls (A0 A1 : Option Addr) (n0 c0 n1 c1 : Nat) (w : World) :
    Calls Try.prog 7 #[.slice A0 n0 c0, .slice A1 n1 c1] w fun e w' => e = .returned (.bool true) ∧ Below w.heap.size w w' := by
  have hu29 := Try.underlying29
  go_enter Try.func7, Try.ntmps7
  go_wp2_with (first | (go_at_call 13; refine (psalterylaw18_alive.holds _).mono ?_; rintro e w1 ⟨rfl, g2⟩; have HB1 := Aside0.mk g2; clear g2) | (go_at_call 23; refine (pitch_Hunter_Reset.nil _).mono ?_; rintro e w2 ⟨rfl, rfl⟩) | (go_at_call 28; refine (pitch_Comb_Reset.nil _).mono ?_; rintro e w2 ⟨rfl, rfl⟩) | (go_at_call 15; refine (pitch_Hunter_Feed.nil A0 n0 c0 _).mono ?_; rintro e w3 ⟨rfl, g2⟩; have HB3 := Aside0.mk (below_step HB1.out g2); clear g2) | (go_at_call 18; refine (pitch_Comb_Feed.nil A1 n1 c1 0 0 _).mono ?_; rintro e w4 ⟨rfl, g2⟩; have HB4 := Aside0.mk (below_step (below_alloc HB3.out _) g2); clear g2))
  repeat (go_quiet (fail); try go_wp2)
  go_ret
  exact ⟨rfl, HB4.out⟩
end Go.Proofs.Ytblehkoonajofaa.PPitch
