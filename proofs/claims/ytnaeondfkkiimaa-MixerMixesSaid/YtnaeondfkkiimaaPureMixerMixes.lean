/- The plain statement of the law MixerMixes: any two lists together, faded, and in two channels are the reference's. No condition. -/
import Derived.Test.YtnaeondfkkiimaaMixLib
import Derived.Test.YtnaeondfkkiimaaWeaveLibMixer
namespace Go.Proofs.Ytnaeondfkkiimaa.Pure
open Go.RowKit Go.Proofs.Ytnaeondfkkiimaa.PMixer Go.Proofs.Ytnaeondfkkiimaa.Num Go.Proofs.Ytnaeondfkkiimaa.MixLib Go.Proofs.Ytnaeondfkkiimaa.SameLibMixer Go.Proofs.Ytnaeondfkkiimaa.FixBaseMixer Go.Proofs.Ytnaeondfkkiimaa.WeaveLibMixer Go.Proofs.YtnaeondfkkiimaaW.PrintWords Go.Proofs.YtnaeondfkkiimaaW.PrintLast Go.Proofs.YtnaeondfkkiimaaW.PrintMore
set_option linter.unusedVariables false
def panV (l : List Int) (left q : Int) : Int := rnd (rd l (q / 2) * (if q % 2 = 0 then left else 32767 - left)) 15
theorem pan_range {a b : Int} (h1 : -32768 ≤ a) (h2 : a ≤ 32767) (h3 : 0 ≤ b) (h4 : b ≤ 32767) : -32768 ≤ rnd (a * b) 15 ∧ rnd (a * b) 15 ≤ 32767 := by
  have lo : -1073709056 ≤ a * b := by
    have := Int.mul_le_mul_of_nonneg_right h1 h3; omega
  have hi : a * b ≤ 1073676289 := by
    have := Int.mul_le_mul_of_nonneg_right h2 h3; omega
  have m1 := rnd_mono (s := 15) lo
  have m2 := rnd_mono (s := 15) hi
  have e1 : rnd (-1073709056) 15 = -32767 := by decide +kernel
  have e2 : rnd 1073676289 15 = 32766 := by decide +kernel
  omega
theorem Pan_eq {l : List Int} (h : Sams l) {left : Int} (h0 : 0 ≤ left) (h1 : left ≤ 32767) (hl : l.length ≤ 1000000) {k : Nat} (hk : 4 * l.length + 5 < k) :
    ∃ r, mixer_Pan.f k l left = some (r, 0) ∧ Fills (l.length * 2) (panV l left) r := by
  obtain ⟨k, rfl⟩ : ∃ m, k = m + 3 := ⟨k - 3, by omega⟩
  unfold mixer_Pan.f
  rw [if_neg (by omega), if_pos (by decide), wi16 (by omega) (by omega)]
  have p0 : pick_two.f 0 left (32767 - left) = some left := by unfold pick_two.f; rw [if_pos (by decide), if_pos (by decide)]; rfl
  have p1 : pick_two.f 1 left (32767 - left) = some (32767 - left) := by unfold pick_two.f; rw [if_pos (by decide), if_pos (by decide)]; rfl
  obtain ⟨A, ha, fa⟩ := Mix_eq (x := left) (y := 0) (k := k + 2) h Sams.nil (by omega) (by omega) hl (by simp) (by omega) (by simp)
  obtain ⟨B, hb, fb⟩ := Mix_eq (x := 32767 - left) (y := 0) (k := k + 1) h Sams.nil (by omega) (by omega) hl (by simp) (by omega) (by simp)
  simp only [mixer_Pan.l0]
  rw [if_pos (by decide), p0]; simp only [Option.bind_some]
  rw [ha]; simp only [Option.bind_some]
  rw [if_pos (by decide), if_pos (by simp), w64 (by decide) (by decide), if_pos (by decide), show (0 : Int) + 1 = 1 from rfl, p1]; simp only [Option.bind_some]
  rw [hb]; simp only [Option.bind_some]
  rw [if_pos (by decide), if_pos (by simp), w64 (by decide) (by decide), if_neg (by decide)]
  have el : (((List.replicate 2 ([] : List Int)).set (Int.toNat 0) A).set (Int.toNat 1) B) = [A, B] := rfl
  rw [el]
  have nA : A.length = l.length := by rw [fa.1]; simp
  have nB : B.length = l.length := by rw [fb.1]; simp
  obtain ⟨r, hr, fr⟩ := Weave_ok (ls := [A, B]) (k := k) (by simp) (by simp) l.length (fun j j0 j1 => by
    have : j = 0 ∨ j = 1 := by simp at j1; omega
    rcases this with rfl | rfl
    · exact nA
    · exact nB) hl (by omega)
  rw [hr]; simp only [Option.bind_some]
  refine ⟨r, rfl, fr.1, fun q q0 q1 => ?_⟩
  rw [fr.2 q q0 (by simpa using q1)]
  unfold weaveV panV
  simp only [List.length_cons, List.length_nil]
  have q2 : q / 2 < l.length := by omega
  have s := h.at (show 0 ≤ q / 2 by omega) q2
  have hm : max l.length ([] : List Int).length = l.length := by simp
  have sm : smp l (q / 2) = rd l (q / 2) := by unfold smp; rw [if_pos q2]
  by_cases c : q % 2 = 0
  · rw [if_pos c, show (q % ((0 + 1 + 1 : Nat) : Int)) = 0 from c]
    show rd A (q / 2) = _
    rw [fa.2 (q / 2) (by omega) (by rw [hm]; exact q2)]
    unfold mixV
    have g := pan_range s.1 s.2 h0 h1
    rw [sm, Int.mul_zero, Int.add_zero, sat16_self g.1 g.2]
  · rw [if_neg c, show (q % ((0 + 1 + 1 : Nat) : Int)) = 1 by omega]
    show rd B (q / 2) = _
    rw [fb.2 (q / 2) (by omega) (by rw [hm]; exact q2)]
    unfold mixV
    have g := pan_range s.1 s.2 (show 0 ≤ 32767 - left by omega) (by omega)
    rw [sm, Int.mul_zero, Int.add_zero, sat16_self g.1 g.2]
theorem rPan_l0 {l : List Int} (h : Sams l) {left : Int} (h0 : 0 ≤ left) (h1 : left ≤ 32767) (hl : l.length ≤ 1000000) (d : Nat) : ∀ (k : Nat) (out : List Int) (i : Int), 0 ≤ i → (l.length : Int) - i = d → d < k → (out.length : Int) = 2 * i → Upto (panV l left) out (2 * i) →
    ∃ r, psalteryref33_Pan.l0 k l left out i = some r ∧ Fills (l.length * 2) (panV l left) r := by
  induction d with
  | zero =>
    intro k out i i0 hd hk ho hu
    obtain ⟨k, rfl⟩ : ∃ m, k = m + 1 := ⟨k - 1, by omega⟩
    simp only [psalteryref33_Pan.l0]
    rw [if_neg (by omega)]
    exact ⟨out, rfl, hu.fills (by omega) (by omega)⟩
  | succ d ih =>
    intro k out i i0 hd hk ho hu
    obtain ⟨k, rfl⟩ : ∃ m, k = m + 1 := ⟨k - 1, by omega⟩
    simp only [psalteryref33_Pan.l0]
    have s := h.at i0 (by omega)
    have p := prod16 s.1 s.2 (show -32768 ≤ left by omega) (by omega)
    have q := prod16 s.1 s.2 (show -32768 ≤ 32767 - left by omega) (by omega)
    have g := pan_range s.1 s.2 h0 h1
    have g2 := pan_range s.1 s.2 (show 0 ≤ 32767 - left by omega) (by omega)
    rw [if_pos (by omega), if_pos i0, w64 (a := rd l i) (by omega) (by omega), w64 (a := left) (by omega) (by omega), w64 (a := rd l i * left) (by omega) (by omega), rRound_eq 15 (by omega) (by omega)]
    simp only [Option.bind_some]
    rw [wi16 (a := 32767 - left) (by omega) (by omega), w64 (a := 32767 - left) (by omega) (by omega), w64 (a := rd l i * (32767 - left)) (by omega) (by omega), rRound_eq 15 (by omega) (by omega)]
    simp only [Option.bind_some]
    rw [wi16 g.1 g.2, wi16 g2.1 g2.2, if_pos (by simp; omega), w64 (by omega) (by omega)]
    have e : out ++ [rnd (rd l i * left) 15, rnd (rd l i * (32767 - left)) 15] = (out ++ [rnd (rd l i * left) 15]) ++ [rnd (rd l i * (32767 - left)) 15] := by simp
    rw [e]
    have u1 : Upto (panV l left) (out ++ [rnd (rd l i * left) 15]) (2 * i + 1) := hu.snoc (by omega) (by unfold panV; rw [if_pos (by omega), show 2 * i / 2 = i by omega])
    have l1 := len_snoc (v := rnd (rd l i * left) 15) ho
    have u2 : Upto (panV l left) ((out ++ [rnd (rd l i * left) 15]) ++ [rnd (rd l i * (32767 - left)) 15]) (2 * i + 1 + 1) := u1.snoc (by omega) (by unfold panV; rw [if_neg (by omega), show (2 * i + 1) / 2 = i by omega])
    have l2 := len_snoc (v := rnd (rd l i * (32767 - left)) 15) l1
    rw [show 2 * i + 1 + 1 = 2 * (i + 1) by omega] at u2 l2
    exact ih k _ (i + 1) (by omega) (by omega) (by omega) l2 u2
theorem rPan_eq {l : List Int} (h : Sams l) {left : Int} (h0 : 0 ≤ left) (h1 : left ≤ 32767) (hl : l.length ≤ 1000000) {k : Nat} (hk : l.length < k) : ∃ r, psalteryref33_Pan.f k l left = some r ∧ Fills (l.length * 2) (panV l left) r := by
  unfold psalteryref33_Pan.f
  exact rPan_l0 h h0 h1 hl l.length k [] 0 (by decide) (by omega) hk rfl (Upto.none _ _)
theorem MixerMixes : psalterylaw33_MixerMixes.Pure := by
  intro a b x y _ _ ha _ _ hb hx hy
  have sa := Sams.of ha
  have sb := Sams.of hb
  have hx := i16_of hx
  have hy := i16_of hy
  refine ⟨10000, ?_⟩
  unfold psalterylaw33_MixerMixes.f
  rw [alive_eq (by decide)]; simp only [Option.bind_some, if_true]
  have far : psalterylaw33_MixerMixes.j0 10000 a b x y true = some true := by simp only [psalterylaw33_MixerMixes.j0]; rw [if_pos trivial]
  by_cases c1 : (a.length : Int) > 2000
  · rw [if_pos c1]; exact far
  · rw [if_neg c1]
    by_cases c2 : (b.length : Int) > 2000
    · rw [decide_eq_true c2]; exact far
    · rw [decide_eq_false c2]
      obtain ⟨m, hm, fm⟩ := Mix_eq (x := x) (y := y) (k := 9999) sa sb hx hy (by omega) (by omega) (by omega) (by omega)
      obtain ⟨m2, hm2, fm2⟩ := rMix_eq (x := x) (y := y) (k := 9999) sa sb hx hy (by omega) (by omega)
      obtain rfl := fm.unique fm2
      obtain ⟨f, hf, ff⟩ := Fade_eq (x := x) (y := y) (k := 9999) sa hx hy (by omega) (by omega)
      obtain ⟨f2, hf2, ff2⟩ := rFade_eq (x := x) (y := y) (k := 9999) sa hx hy (by omega) (by omega)
      obtain rfl := ff.unique ff2
      have lm := fm.1
      have lf := ff.1
      simp only [psalterylaw33_MixerMixes.j0]
      rw [if_neg Bool.false_ne_true]
      by_cases c3 : x < 0
      · have hp : mixer_Pan.f 9999 a x = some ([], 1) := by unfold mixer_Pan.f; rw [if_pos c3]
        rw [hp, hm, hm2, hf, hf2]; simp only [Option.bind_some]
        rw [Same_eq (by omega) (by omega), Same_eq (by omega) (by omega)]; simp only [Option.bind_some]
        simp only [psalterylaw33_MixerMixes.j1]
        rw [if_pos trivial, if_neg (by decide), if_pos c3, if_pos (by rfl)]; rfl
      · obtain ⟨p, hp, fp⟩ := Pan_eq (left := x) (k := 9999) sa (by omega) hx.2 (by omega) (by omega)
        obtain ⟨p2, hp2, fp2⟩ := rPan_eq (left := x) (k := 9998) sa (by omega) hx.2 (by omega) (by omega)
        obtain rfl := fp.unique fp2
        have lp := fp.1
        rw [hp, hm, hm2, hf, hf2]; simp only [Option.bind_some]
        rw [Same_eq (by omega) (by omega), Same_eq (by omega) (by omega)]; simp only [Option.bind_some]
        simp only [psalterylaw33_MixerMixes.j1]
        rw [if_pos trivial, if_neg (by decide), if_neg c3, if_pos trivial, hp2]; simp only [Option.bind_some]
        rw [Same_eq (by omega) (by omega)]; simp only [Option.bind_some]
end Go.Proofs.Ytnaeondfkkiimaa.Pure
