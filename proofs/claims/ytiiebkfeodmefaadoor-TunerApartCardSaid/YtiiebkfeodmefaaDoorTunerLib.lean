/- Tuner: notes, names, pitches as plain functions. -/
import Derived.Test.YtiiebkfeodmefaaDoorRefLogsTuner
import Derived.Test.YtiiebkfeodmefaaDoorLogsBaseTuner
import Derived.Test.YtiiebkfeodmefaaDoorNum
namespace Go.Proofs.YtiiebkfeodmefaaDoor.TunerLib
open Go.RowKit Go.Proofs.YtiiebkfeodmefaaDoor.PTuner Go.Proofs.YtiiebkfeodmefaaDoor.Num Go.Proofs.YtiiebkfeodmefaaDoor.LogsBaseTuner Go.Proofs.YtiiebkfeodmefaaDoor.RefLogsTuner Go.Proofs.YtiiebkfeodmefaaDoorW.PrintWords Go.Proofs.YtiiebkfeodmefaaDoorW.PrintLast Go.Proofs.YtiiebkfeodmefaaDoorW.PrintMore
set_option linter.unusedSimpArgs false
set_option linter.unusedVariables false
theorem Note440 : tuner_Note.f 440 = some (69, 0) := by decide +kernel
example : (⟨#[65, 52]⟩ : ByteArray).toList = [65, 52] := by decide +kernel
theorem name69 : (nameS 69).toList = [65, 52] := by decide +kernel
theorem alive_eq : psalterylaw37_alive.f = some true := by
  unfold psalterylaw37_alive.f
  rw [Note440, show tuner_Name.f 69 = some (nameS 69, 0) from rfl, show tuner_Name.f 128 = some ((⟨#[]⟩ : ByteArray), 1) from rfl]
  simp only [Option.bind_some]
  simp [name69]
theorem refPitch_of (n : Nat) (hn : n ≤ 127) : psalteryref37_Pitch.f (n : Int) = some (pitchV n) := by
  have h : ∀ n : Fin 128, psalteryref37_Pitch.f (n.val : Int) = some (pitchV n.val) := by decide +kernel
  exact h ⟨n, by omega⟩
theorem farV_abs (q : Int) (n : Nat) : farV q n = (q - pitchV n).natAbs := by unfold farV mxN; split <;> omega
theorem nearN_spec (q : Int) : ∀ i, 1 ≤ i → nearN q i < i ∧ (∀ j, j < i → farV q (nearN q i) ≤ farV q j) ∧ (∀ j, j < nearN q i → farV q (nearN q i) < farV q j)
  | 0, h => absurd h (by decide)
  | 1, _ => by
    have e : nearN q 1 = 0 := by simp [nearN]
    rw [e]
    exact ⟨by decide, fun j hj => (by have e0 : j = 0 := (by omega); subst e0; exact Int.le_refl _), fun j hj => absurd hj (by omega)⟩
  | i+2, _ => by
    obtain ⟨h1, h2, h3⟩ := nearN_spec q (i + 1) (by omega)
    have e : nearN q (i + 2) = if farV q (i + 1) < farV q (nearN q (i + 1)) then i + 1 else nearN q (i + 1) := rfl
    rw [e]
    by_cases c : farV q (i + 1) < farV q (nearN q (i + 1))
    · rw [if_pos c]
      refine ⟨by omega, fun j hj => ?_, fun j hj => ?_⟩
      · by_cases hj2 : j = i + 1
        · subst hj2; exact Int.le_refl _
        · have := h2 j (by omega); omega
      · have := h2 j (by omega); omega
    · rw [if_neg c]
      refine ⟨by omega, fun j hj => ?_, fun j hj => ?_⟩
      · by_cases hj2 : j = i + 1
        · subst hj2; omega
        · exact h2 j (by omega)
      · exact h3 j hj
theorem near_unique {q : Int} {b : Nat} (hb : b ≤ 127) (h1 : ∀ j, j ≤ 127 → farV q b ≤ farV q j) (h2 : ∀ j, j < b → farV q b < farV q j) : b = nearN q 128 := by
  obtain ⟨g0, g1, g2⟩ := nearN_spec q 128 (by decide)
  rcases Nat.lt_trichotomy b (nearN q 128) with h | h | h
  · have := g2 b h; have := h1 (nearN q 128) (by omega); omega
  · exact h
  · have := h2 _ h; have := g1 b (by omega); omega
theorem sq_le {a b : Int} : a * a ≤ b * b ↔ a.natAbs ≤ b.natAbs := by
  rw [← Int.natAbs_mul_self (a := a), ← Int.natAbs_mul_self (a := b), Int.ofNat_le]
  exact Nat.mul_self_le_mul_self_iff
theorem rNote_l0 {q : Int} (h0 : 0 ≤ q) (h1 : q ≤ 16383) (d : Nat) : ∀ (k b : Nat), d ≤ 127 → d < k → b ≤ 127 → (∀ j, d ≤ j → j ≤ 127 → farV q b ≤ farV q j) → (∀ j, d ≤ j → j < b → farV q b < farV q j) → psalteryref37_Note.l0 k q (b : Int) ((d : Int) - 1) = some ((nearN q 128 : Nat) : Int) := by
  induction d with
  | zero =>
    intro k b _ hk hb g1 g2
    obtain ⟨k, rfl⟩ : ∃ m, k = m + 1 := ⟨k - 1, by omega⟩
    simp only [psalteryref37_Note.l0]
    rw [if_neg (by omega), near_unique hb (fun j hj => g1 j (by omega) hj) (fun j hj => g2 j (by omega) hj)]
  | succ d ih =>
    intro k b hd hk hb g1 g2
    obtain ⟨k, rfl⟩ : ∃ m, k = m + 1 := ⟨k - 1, by omega⟩
    simp only [psalteryref37_Note.l0]
    have e1 : ((d + 1 : Nat) : Int) - 1 = (d : Int) := by omega
    have p1 := pitch_in d (by omega)
    have p2 := pitch_in b hb
    rw [e1, if_pos (by omega), refPitch_of d (by omega), refPitch_of b hb]
    simp only [Option.bind_some]
    have w1 : wrap32 (q - pitchV d) = q - pitchV d := by unfold wrap32; omega
    have w2 : wrap32 (q - pitchV b) = q - pitchV b := by unfold wrap32; omega
    have m1 := mul_abs (a := q - pitchV d) (b := q - pitchV d) (A := 16384) (B := 16384) (by omega) (by omega) (by omega) (by omega)
    have m2 := mul_abs (a := q - pitchV b) (b := q - pitchV b) (A := 16384) (B := 16384) (by omega) (by omega) (by omega) (by omega)
    rw [w1, w2, show wrap32 ((q - pitchV d) * (q - pitchV d)) = (q - pitchV d) * (q - pitchV d) from by unfold wrap32; omega, show wrap32 ((q - pitchV b) * (q - pitchV b)) = (q - pitchV b) * (q - pitchV b) from by unfold wrap32; omega, show wrap64 ((d : Int) - 1) = (d : Int) - 1 from by unfold wrap64; omega]
    by_cases c : (q - pitchV d) * (q - pitchV d) ≤ (q - pitchV b) * (q - pitchV b)
    · rw [if_pos c]
      have c2 := sq_le.1 c
      have c3 : farV q d ≤ farV q b := by rw [farV_abs, farV_abs]; omega
      refine ih k d (by omega) (by omega) (by omega) (fun j hj hj2 => ?_) (fun j hj hj2 => absurd hj2 (by omega))
      by_cases e : j = d
      · subst e; exact Int.le_refl _
      · have := g1 j (by omega) hj2; omega
    · rw [if_neg c]
      have c2 : ¬ (q - pitchV d).natAbs ≤ (q - pitchV b).natAbs := fun h => c (sq_le.2 h)
      have c3 : farV q b < farV q d := by rw [farV_abs, farV_abs]; omega
      refine ih k b (by omega) (by omega) hb (fun j hj hj2 => ?_) (fun j hj hj2 => ?_)
      · by_cases e : j = d
        · subst e; omega
        · exact g1 j (by omega) hj2
      · by_cases e : j = d
        · subst e; exact c3
        · exact g2 j (by omega) hj2
theorem rNote_eq {q : Int} (h0 : 0 ≤ q) (h1 : q ≤ 16383) {k : Nat} (hk : 200 ≤ k) : psalteryref37_Note.f k q = some ((nearN q 128 : Nat) : Int) := by
  unfold psalteryref37_Note.f
  exact rNote_l0 h0 h1 127 k 127 (by decide) (by omega) (by decide) (fun j a b => (by have e0 : j = 127 := (by omega); subst e0; exact Int.le_refl _)) (fun j a b => absurd b (by omega))
theorem Note_eq {n : Int} (h0 : 0 ≤ n) (h1 : n ≤ 18446744073709551615) : tuner_Note.f n = some (if n = 0 then (0, 1) else (((nearN (logV n) 128 : Nat) : Int), 0)) := by
  unfold tuner_Note.f
  rw [Log_eq h0 h1 (by decide)]
  simp only [Option.bind_some]
  by_cases c : n = 0
  · rw [if_pos c, if_pos c]; rfl
  · have hr := logV_range (show 0 < n by omega) h1
    rw [if_neg c, if_neg c]
    show (if (0 : Int) = 0 then _ else _) = _
    rw [if_pos rfl, if_pos (by constructor <;> omega)]
theorem Pitch_eq (n : Int) : tuner_Pitch.f n = some (if 0 ≤ n ∧ n ≤ 127 then (pitchV n.toNat, 0) else (0, 1)) := by
  unfold tuner_Pitch.f tuner_note.f
  by_cases h0 : n ≥ 0
  · rw [if_pos h0]
    simp only [Option.bind_some]
    by_cases h1 : n ≤ 127
    · rw [if_pos (by simpa using h1), if_pos ⟨h0, h1⟩]
      have h := pitch_of n.toNat (by omega)
      rw [show ((n.toNat : Nat) : Int) = n from by omega] at h
      rw [h]; rfl
    · rw [if_neg (by simpa using h1), if_neg (fun h => h1 h.2)]
  · rw [if_neg h0]
    simp only [Option.bind_some]
    rw [if_neg (by decide), if_neg (fun h => h0 h.1)]
end Go.Proofs.YtiiebkfeodmefaaDoor.TunerLib
