/- Shape: the walk of the law ShapeTurns. -/
import Derived.Test.YtblehkoonajofaaShapeRefTurn
import Derived.Test.YtblehkoonajofaaShapeFindsWalk
namespace Go.Proofs.Ytblehkoonajofaa.PShape
open Go.RowKit Go.Proofs.YtblehkoonajofaaW.PrintWords Go.Proofs.YtblehkoonajofaaW.PrintLast Go.Proofs.YtblehkoonajofaaW.PrintMore Go.Proofs.Ytblehkoonajofaa.ShapeBand Go.Proofs.Ytblehkoonajofaa.RowAt
set_option linter.unusedVariables false
set_option linter.unusedSimpArgs false
theorem shapeV_eq (c r0 r1 r2 r3 r4 r5 r6 r7 : Int) : shapeV c [r0, r1, r2, r3, r4, r5, r6, r7] = .agg #[.int .i64 c, .int .i64 r0, .int .i64 r1, .int .i64 r2, .int .i64 r3, .int .i64 r4, .int .i64 r5, .int .i64 r6, .int .i64 r7] := rfl
theorem same_rows (A1 A2 : Option Addr) (c1 c2 n b1 b2 : Nat) (e1 e2 : TypeId) (T : List Int) (hT : T.length = n) (hn : n ≤ 300) (W : World) (h1 : W.ownsRow b1 e1 1 (.slice A1 n c1) n (nums .i32 T)) (h2 : W.ownsRow b2 e2 1 (.slice A2 n c2) n (nums .i32 T)) :
    Calls Try.prog 35 #[.slice A1 n c1, .slice A2 n c2] W fun e w' => e = .returned (.bool true) ∧ Below W.heap.size W w' := by
  subst hT
  refine (psalteryref08_Same32.calls 1000 A1 c1 T A2 c2 T true W (own_C h1) (own_cap h1) (own_C h2) (own_cap h2) (Same_eq (by omega) (by omega))).mono ?_
  rintro e w' ⟨rfl, hb⟩
  obtain ⟨q8, hq8⟩ := hb.out
  exact ⟨rfl, by rw [hq8]; exact pw_below_drewN (Below.refl _ _) _⟩
theorem ref_Turn.even (A0 : Option Addr) (c0 : Nat) (x : List Int) (c : Int) (r : List Int) (w : World) (hr0 : Kd.C (Kd.int .i32) w A0 x.length x) (hc0 : x.length ≤ c0) (hx : Lines x) (he : edE x ≠ []) (hr : r.length = 8) (hk : okShape c r) :
    Calls Try.prog 42 #[.slice A0 x.length c0, shapeV c r, .bool true] w fun e w' => ∃ A cap, e = .returned (.slice A x.length cap) ∧ w'.ownsRow w.heap.size 21 1 (.slice A x.length cap) x.length (nums .i32 (turnL x (saysL c r) (-1))) ∧ Below w.heap.size w w' :=
  ref_Turn.calls A0 c0 x c r true w hr0 hc0 hx he hr hk
theorem ref_Turn.odd (A0 : Option Addr) (c0 : Nat) (x : List Int) (c : Int) (r : List Int) (w : World) (hr0 : Kd.C (Kd.int .i32) w A0 x.length x) (hc0 : x.length ≤ c0) (hx : Lines x) (he : edE x ≠ []) (hr : r.length = 8) (hk : okShape c r) :
    Calls Try.prog 42 #[.slice A0 x.length c0, shapeV c r, .bool false] w fun e w' => ∃ A cap, e = .returned (.slice A x.length cap) ∧ w'.ownsRow w.heap.size 21 1 (.slice A x.length cap) x.length (nums .i32 (turnL x (saysL c r) 1)) ∧ Below w.heap.size w w' :=
  ref_Turn.calls A0 c0 x c r false w hr0 hc0 hx he hr hk
/-- The box of the law's shape, and what lies beside it. -/
structure VI (w : World) (c r0 r1 r2 r3 r4 r5 r6 r7 : Int) (vl : Value) (l : List Int) (va : Value) (a : List Int) (vb : Value) (b : List Int) (wx : World) : Prop where
  bx : wx.heap[w.heap.size]? = some (.cells #[.int .i64 c, .int .i64 r0, .int .i64 r1, .int .i64 r2, .int .i64 r3, .int .i64 r4, .int .i64 r5, .int .i64 r6, .int .i64 r7] 55 (0, 0))
  lr : wx.ownsRow w.heap.size 21 1 vl l.length (nums .i32 l)
  ar : wx.ownsRow w.heap.size 21 1 va a.length (nums .i32 a)
  br : wx.ownsRow w.heap.size 21 1 vb b.length (nums .i32 b)
  be : Below w.heap.size w wx
section
variable {w wx wy : World} {c r0 r1 r2 r3 r4 r5 r6 r7 : Int} {vl va vb : Value} {l a b : List Int}
theorem VI.later (h : VI w c r0 r1 r2 r3 r4 r5 r6 r7 vl l va a vb b wx) (hb : Below wx.heap.size wx wy) : VI w c r0 r1 r2 r3 r4 r5 r6 r7 vl l va a vb b wy :=
  ⟨box_later h.bx hb, h.lr.kept (grown_of_below hb none) (by cases Value.ownBlock _ <;> simp), h.ar.kept (grown_of_below hb none) (by cases Value.ownBlock _ <;> simp), h.br.kept (grown_of_below hb none) (by cases Value.ownBlock _ <;> simp), below_step h.be hb⟩
theorem VI.setL (h : VI w c r0 r1 r2 r3 r4 r5 r6 r7 vl l va a vb b wx) {v : Value} {m : List Int} (hb : Below wx.heap.size wx wy) (g : wy.ownsRow wx.heap.size 21 1 v m.length (nums .i32 m)) : VI w c r0 r1 r2 r3 r4 r5 r6 r7 v m va a vb b wy := by
  have h2 := h.later hb
  exact ⟨h2.bx, own_lower g (below_size h.be), h2.ar, h2.br, h2.be⟩
theorem VI.setA (h : VI w c r0 r1 r2 r3 r4 r5 r6 r7 vl l va a vb b wx) {v : Value} {m : List Int} (hb : Below wx.heap.size wx wy) (g : wy.ownsRow wx.heap.size 21 1 v m.length (nums .i32 m)) : VI w c r0 r1 r2 r3 r4 r5 r6 r7 vl l v m vb b wy := by
  have h2 := h.later hb
  exact ⟨h2.bx, h2.lr, own_lower g (below_size h.be), h2.br, h2.be⟩
theorem VI.setB (h : VI w c r0 r1 r2 r3 r4 r5 r6 r7 vl l va a vb b wx) {v : Value} {m : List Int} (hb : Below wx.heap.size wx wy) (g : wy.ownsRow wx.heap.size 21 1 v m.length (nums .i32 m)) : VI w c r0 r1 r2 r3 r4 r5 r6 r7 vl l va a v m wy := by
  have h2 := h.later hb
  exact ⟨h2.bx, h2.lr, h2.ar, own_lower g (below_size h.be), h2.be⟩
end
set_option maxRecDepth 100000 in
set_option maxHeartbeats 8000000 in
theorem law_Turns.long (A0 : Option Addr) (c0 : Nat) (x : List Int) (c : Int) (r : List Int) (w : World) (hr0 : Kd.C (Kd.int .i32) w A0 x.length x) (hc0 : x.length ≤ c0) (hx : Lines x) (hr : r.length = 8) (hl : 300 < x.length) :
    Calls Try.prog 11 #[.slice A0 x.length c0, shapeV c r] w fun e w' => e = .returned (.bool true) ∧ Below w.heap.size w w' := by
  have q0 : (300 : Int) < (x.length : Int) := by omega
  clear hr0 hc0 hx hl
  obtain ⟨r0, r1, r2, r3, r4, r5, r6, r7, rfl⟩ := eight hr
  have HI := Aside0.mk (show VI w c r0 r1 r2 r3 r4 r5 r6 r7 (.slice none 0 0) [] (.slice none 0 0) [] (.slice none 0 0) [] (w.alloc (.cells #[.int .i64 c, .int .i64 r0, .int .i64 r1, .int .i64 r2, .int .i64 r3, .int .i64 r4, .int .i64 r5, .int .i64 r6, .int .i64 r7] 55)) from ⟨blk_new w _, own_nil _ _ _ _, own_nil _ _ _ _, own_nil _ _ _ _, below_alloc (Below.refl w.heap.size w) _⟩)
  unfold shapeV
  simp only [nums, List.map]
  go_enter Try.func11, Try.ntmps11
  go_wp2_with (first | (go_at_call 24; refine (law_alive.calls _).mono ?_; rintro e w1 ⟨rfl, hb_⟩; have HI1 := Aside0.mk (HI.out.later hb_); clear hb_; have x0 := (blk_cell HI1.out.bx 0).trans rfl; have x1 := (blk_cell HI1.out.bx 1).trans rfl; have x2 := (blk_cell HI1.out.bx 2).trans rfl; have x3 := (blk_cell HI1.out.bx 3).trans rfl; have x4 := (blk_cell HI1.out.bx 4).trans rfl; have x5 := (blk_cell HI1.out.bx 5).trans rfl; have x6 := (blk_cell HI1.out.bx 6).trans rfl; have x7 := (blk_cell HI1.out.bx 7).trans rfl; have x8 := (blk_cell HI1.out.bx 8).trans rfl))
  exact bodyPost_ret (v := .bool true) (by simp [results, Try.results11, go_sem]) rfl ⟨rfl, HI1.out.be⟩
set_option maxRecDepth 100000 in
set_option maxHeartbeats 8000000 in
theorem law_Turns.noShape (A0 : Option Addr) (c0 : Nat) (x : List Int) (c : Int) (r : List Int) (w : World) (hr0 : Kd.C (Kd.int .i32) w A0 x.length x) (hc0 : x.length ≤ c0) (hx : Lines x) (hr : r.length = 8) (hl : ¬ 300 < x.length) (hk : ¬ okShape c r) :
    Calls Try.prog 11 #[.slice A0 x.length c0, shapeV c r] w fun e w' => e = .returned (.bool true) ∧ Below w.heap.size w w' := by
  have q0 : ¬ (300 : Int) < (x.length : Int) := by omega
  have HSY := Aside0.mk (fun w_ => shape_Says.no c r hr hk w_)
  have HEV := Aside0.mk (fun w_ => shape_Even.no A0 c0 x c r w_ hr (.inr hk))
  have HUN := Aside0.mk (fun w_ => shape_Uneven.no A0 c0 x c r w_ hr (.inr hk))
  have HRC := Aside0.mk (fun w_ => ref_Check.calls c r hr w_)
  have HCH := Aside0.mk (fun w_ => shape_Check.calls c r hr 1 ⟨by rw [if_neg hk]⟩ w_)
  have HK := Aside0.mk hk
  obtain ⟨r0, r1, r2, r3, r4, r5, r6, r7, rfl⟩ := eight hr
  clear hr0 hc0 hx hr hl hk
  have HI := Aside0.mk (show VI w c r0 r1 r2 r3 r4 r5 r6 r7 (.slice none 0 0) [] (.slice none 0 0) [] (.slice none 0 0) [] (w.alloc (.cells #[.int .i64 c, .int .i64 r0, .int .i64 r1, .int .i64 r2, .int .i64 r3, .int .i64 r4, .int .i64 r5, .int .i64 r6, .int .i64 r7] 55)) from ⟨blk_new w _, own_nil _ _ _ _, own_nil _ _ _ _, own_nil _ _ _ _, below_alloc (Below.refl w.heap.size w) _⟩)
  unfold shapeV at HSY HEV HUN HRC HCH ⊢
  simp only [nums, List.map] at HSY HEV HUN HRC HCH ⊢
  go_enter Try.func11, Try.ntmps11
  go_wp2_with (first | (go_at_call 24; refine (law_alive.calls _).mono ?_; rintro e w1 ⟨rfl, hb_⟩; have HI1 := Aside0.mk (HI.out.later hb_); clear hb_; have x0 := (blk_cell HI1.out.bx 0).trans rfl; have x1 := (blk_cell HI1.out.bx 1).trans rfl; have x2 := (blk_cell HI1.out.bx 2).trans rfl; have x3 := (blk_cell HI1.out.bx 3).trans rfl; have x4 := (blk_cell HI1.out.bx 4).trans rfl; have x5 := (blk_cell HI1.out.bx 5).trans rfl; have x6 := (blk_cell HI1.out.bx 6).trans rfl; have x7 := (blk_cell HI1.out.bx 7).trans rfl; have x8 := (blk_cell HI1.out.bx 8).trans rfl) | (go_at_call 36; refine (HSY.out _).mono ?_; rintro e w3 ⟨rfl, hb_⟩; have HI3 := Aside0.mk (HI1.out.later hb_); clear x0 x1 x2 x3 x4 x5 x6 x7 x8; clear hb_; have x0 := (blk_cell HI3.out.bx 0).trans rfl; have x1 := (blk_cell HI3.out.bx 1).trans rfl; have x2 := (blk_cell HI3.out.bx 2).trans rfl; have x3 := (blk_cell HI3.out.bx 3).trans rfl; have x4 := (blk_cell HI3.out.bx 4).trans rfl; have x5 := (blk_cell HI3.out.bx 5).trans rfl; have x6 := (blk_cell HI3.out.bx 6).trans rfl; have x7 := (blk_cell HI3.out.bx 7).trans rfl; have x8 := (blk_cell HI3.out.bx 8).trans rfl) | (go_at_call 37; refine (HEV.out _).mono ?_; rintro e w4 ⟨rfl, hb_⟩; have HI4 := Aside0.mk (HI3.out.later hb_); clear x0 x1 x2 x3 x4 x5 x6 x7 x8; clear hb_; have x0 := (blk_cell HI4.out.bx 0).trans rfl; have x1 := (blk_cell HI4.out.bx 1).trans rfl; have x2 := (blk_cell HI4.out.bx 2).trans rfl; have x3 := (blk_cell HI4.out.bx 3).trans rfl; have x4 := (blk_cell HI4.out.bx 4).trans rfl; have x5 := (blk_cell HI4.out.bx 5).trans rfl; have x6 := (blk_cell HI4.out.bx 6).trans rfl; have x7 := (blk_cell HI4.out.bx 7).trans rfl; have x8 := (blk_cell HI4.out.bx 8).trans rfl) | (go_at_call 39; refine (HUN.out _).mono ?_; rintro e w5 ⟨rfl, hb_⟩; have HI5 := Aside0.mk (HI4.out.later hb_); clear x0 x1 x2 x3 x4 x5 x6 x7 x8; clear hb_; have x0 := (blk_cell HI5.out.bx 0).trans rfl; have x1 := (blk_cell HI5.out.bx 1).trans rfl; have x2 := (blk_cell HI5.out.bx 2).trans rfl; have x3 := (blk_cell HI5.out.bx 3).trans rfl; have x4 := (blk_cell HI5.out.bx 4).trans rfl; have x5 := (blk_cell HI5.out.bx 5).trans rfl; have x6 := (blk_cell HI5.out.bx 6).trans rfl; have x7 := (blk_cell HI5.out.bx 7).trans rfl; have x8 := (blk_cell HI5.out.bx 8).trans rfl) | (go_at_call 40; refine (HRC.out _).mono ?_; rintro e w6 ⟨b, rfl, hbk, hb_⟩; obtain rfl : b = false := (by cases b; rfl; exact absurd (hbk.1 rfl) HK.out); have HI6 := Aside0.mk (HI5.out.later hb_); clear x0 x1 x2 x3 x4 x5 x6 x7 x8; clear hb_ hbk; have x0 := (blk_cell HI6.out.bx 0).trans rfl; have x1 := (blk_cell HI6.out.bx 1).trans rfl; have x2 := (blk_cell HI6.out.bx 2).trans rfl; have x3 := (blk_cell HI6.out.bx 3).trans rfl; have x4 := (blk_cell HI6.out.bx 4).trans rfl; have x5 := (blk_cell HI6.out.bx 5).trans rfl; have x6 := (blk_cell HI6.out.bx 6).trans rfl; have x7 := (blk_cell HI6.out.bx 7).trans rfl; have x8 := (blk_cell HI6.out.bx 8).trans rfl) | (go_at_call 38; refine (HCH.out _).mono ?_; rintro e w7 ⟨rfl, hb_⟩; have HI7 := Aside0.mk (HI6.out.later hb_); clear x0 x1 x2 x3 x4 x5 x6 x7 x8; clear hb_))
  go_loopg [12, 61, 62, 63, 64, 65, 66, 67, 68, 69, 70, 71, 72, 73, 74, 75, 76, 77, 78, 79, 80] 0 (fun kq v12 v61 v62 v63 v64 v65 v66 v67 v68 v69 v70 v71 v72 v73 v74 v75 v76 v77 v78 v79 v80 wx => v12 = .int .i64 0 ∧ Aside0 (VI w c r0 r1 r2 r3 r4 r5 r6 r7 (.slice none 0 0) [] (.slice none 0 0) [] (.slice none 0 0) [] wx))
  case atStart => exact ⟨rfl, HI7⟩
  case round =>
    clear HI HI1 HI3 HI4 HI5 HI6 HI7
    obtain ⟨rfl, HI⟩ := hrel
    go_wp2
    exact bodyPost_ret (v := .bool true) (by simp [results, Try.results11, go_sem]) rfl ⟨rfl, HI.out.be⟩
set_option maxRecDepth 100000 in
set_option maxHeartbeats 8000000 in
theorem law_Turns.noBlock (A0 : Option Addr) (c0 : Nat) (x : List Int) (c : Int) (r : List Int) (w : World) (hr0 : Kd.C (Kd.int .i32) w A0 x.length x) (hc0 : x.length ≤ c0) (hx : Lines x) (hr : r.length = 8) (hl : ¬ 300 < x.length) (hk : okShape c r) (he : edE x = []) :
    Calls Try.prog 11 #[.slice A0 x.length c0, shapeV c r] w fun e w' => e = .returned (.bool true) ∧ Below w.heap.size w w' := by
  have q0 : ¬ (300 : Int) < (x.length : Int) := by omega
  have HSY := Aside0.mk (fun w_ => shape_Says.calls c r hr hk w_)
  have HSB := Aside0.mk (fun b hb w_ => ref_Says.calls c r hr hk b hb w_)
  have HRC := Aside0.mk (fun w_ => ref_Check.calls c r hr w_)
  have HCH := Aside0.mk (fun w_ => shape_Check.calls c r hr 0 ⟨by rw [if_pos hk]⟩ w_)
  have HK := Aside0.mk hk
  have HLL := Aside0.mk (saysL_length c r)
  have HR := Aside0.mk hr0
  have HC := Aside0.mk hc0
  have HEV := Aside0.mk (fun w_ => shape_Even.no A0 c0 x c r w_ hr (.inl he))
  have HUN := Aside0.mk (fun w_ => shape_Uneven.no A0 c0 x c r w_ hr (.inl he))
  have HMY := Aside0.mk (show psalteryref15_May.f x = some false from by rw [May_of, decide_eq_false (by rw [he]; simp)])
  generalize saysL c r = S at HSY HSB HLL
  obtain ⟨r0, r1, r2, r3, r4, r5, r6, r7, rfl⟩ := eight hr
  clear hr0 hc0 hx hr hl hk he
  have HI := Aside0.mk (show VI w c r0 r1 r2 r3 r4 r5 r6 r7 (.slice none 0 0) [] (.slice none 0 0) [] (.slice none 0 0) [] (w.alloc (.cells #[.int .i64 c, .int .i64 r0, .int .i64 r1, .int .i64 r2, .int .i64 r3, .int .i64 r4, .int .i64 r5, .int .i64 r6, .int .i64 r7] 55)) from ⟨blk_new w _, own_nil _ _ _ _, own_nil _ _ _ _, own_nil _ _ _ _, below_alloc (Below.refl w.heap.size w) _⟩)
  simp only [shapeV_eq] at HSY HSB HEV HUN HRC HCH ⊢
  go_enter Try.func11, Try.ntmps11
  go_wp2_with (first | (go_at_call 24; refine (law_alive.calls _).mono ?_; rintro e w1 ⟨rfl, hb_⟩; have HI1 := Aside0.mk (HI.out.later hb_); clear hb_; have x0 := (blk_cell HI1.out.bx 0).trans rfl; have x1 := (blk_cell HI1.out.bx 1).trans rfl; have x2 := (blk_cell HI1.out.bx 2).trans rfl; have x3 := (blk_cell HI1.out.bx 3).trans rfl; have x4 := (blk_cell HI1.out.bx 4).trans rfl; have x5 := (blk_cell HI1.out.bx 5).trans rfl; have x6 := (blk_cell HI1.out.bx 6).trans rfl; have x7 := (blk_cell HI1.out.bx 7).trans rfl; have x8 := (blk_cell HI1.out.bx 8).trans rfl) | (go_at_call 36; refine (HSY.out _).mono ?_; rintro e w3 ⟨As, rfl, g1, hb_⟩; have HI3 := Aside0.mk (HI1.out.setL (m := S) hb_ (by rw [HLL.out]; exact g1)); clear x0 x1 x2 x3 x4 x5 x6 x7 x8; clear g1 hb_; have x0 := (blk_cell HI3.out.bx 0).trans rfl; have x1 := (blk_cell HI3.out.bx 1).trans rfl; have x2 := (blk_cell HI3.out.bx 2).trans rfl; have x3 := (blk_cell HI3.out.bx 3).trans rfl; have x4 := (blk_cell HI3.out.bx 4).trans rfl; have x5 := (blk_cell HI3.out.bx 5).trans rfl; have x6 := (blk_cell HI3.out.bx 6).trans rfl; have x7 := (blk_cell HI3.out.bx 7).trans rfl; have x8 := (blk_cell HI3.out.bx 8).trans rfl) | (go_at_call 37; refine (HEV.out _).mono ?_; rintro e w4 ⟨rfl, hb_⟩; have HI4 := Aside0.mk (HI3.out.later hb_); clear x0 x1 x2 x3 x4 x5 x6 x7 x8; clear hb_; have x0 := (blk_cell HI4.out.bx 0).trans rfl; have x1 := (blk_cell HI4.out.bx 1).trans rfl; have x2 := (blk_cell HI4.out.bx 2).trans rfl; have x3 := (blk_cell HI4.out.bx 3).trans rfl; have x4 := (blk_cell HI4.out.bx 4).trans rfl; have x5 := (blk_cell HI4.out.bx 5).trans rfl; have x6 := (blk_cell HI4.out.bx 6).trans rfl; have x7 := (blk_cell HI4.out.bx 7).trans rfl; have x8 := (blk_cell HI4.out.bx 8).trans rfl) | (go_at_call 39; refine (HUN.out _).mono ?_; rintro e w5 ⟨rfl, hb_⟩; have HI5 := Aside0.mk (HI4.out.later hb_); clear x0 x1 x2 x3 x4 x5 x6 x7 x8; clear hb_; have x0 := (blk_cell HI5.out.bx 0).trans rfl; have x1 := (blk_cell HI5.out.bx 1).trans rfl; have x2 := (blk_cell HI5.out.bx 2).trans rfl; have x3 := (blk_cell HI5.out.bx 3).trans rfl; have x4 := (blk_cell HI5.out.bx 4).trans rfl; have x5 := (blk_cell HI5.out.bx 5).trans rfl; have x6 := (blk_cell HI5.out.bx 6).trans rfl; have x7 := (blk_cell HI5.out.bx 7).trans rfl; have x8 := (blk_cell HI5.out.bx 8).trans rfl) | (go_at_call 40; refine (HRC.out _).mono ?_; rintro e w6 ⟨b, rfl, hbk, hb_⟩; obtain rfl : b = true := hbk.2 HK.out; have HI6 := Aside0.mk (HI5.out.later hb_); clear x0 x1 x2 x3 x4 x5 x6 x7 x8; clear hb_ hbk; have x0 := (blk_cell HI6.out.bx 0).trans rfl; have x1 := (blk_cell HI6.out.bx 1).trans rfl; have x2 := (blk_cell HI6.out.bx 2).trans rfl; have x3 := (blk_cell HI6.out.bx 3).trans rfl; have x4 := (blk_cell HI6.out.bx 4).trans rfl; have x5 := (blk_cell HI6.out.bx 5).trans rfl; have x6 := (blk_cell HI6.out.bx 6).trans rfl; have x7 := (blk_cell HI6.out.bx 7).trans rfl; have x8 := (blk_cell HI6.out.bx 8).trans rfl) | (go_at_call 38; refine (HCH.out _).mono ?_; rintro e w7 ⟨rfl, hb_⟩; have HI7 := Aside0.mk (HI6.out.later hb_); clear x0 x1 x2 x3 x4 x5 x6 x7 x8; clear hb_))
  go_loopg [12, 61, 62, 63, 64, 65, 66, 67, 68, 69, 70, 71, 72, 73, 74, 75, 76, 77, 78, 79, 80] 8 (fun kq v12 v61 v62 v63 v64 v65 v66 v67 v68 v69 v70 v71 v72 v73 v74 v75 v76 v77 v78 v79 v80 wx => ∃ i : Nat, v12 = .int .i64 (i : Int) ∧ Aside0 (kq + i = 8) ∧ Aside0 (VI w c r0 r1 r2 r3 r4 r5 r6 r7 (.slice As 8 8) S (.slice none 0 0) [] (.slice none 0 0) [] wx))
  case atStart => exact ⟨0, rfl, ⟨rfl⟩, HI7⟩
  case round =>
    clear HI HI1 HI3 HI4 HI5 HI6 HI7
    obtain ⟨i, rfl, HG, HI⟩ := hrel
    by_cases hi : i < 8
    · have hi0 : (0 : Int) ≤ i := by omega
      have hi8 : (i : Int) < 8 := by omega
      have hlr := HI.out.lr
      rw [HLL.out] at hlr
      obtain ⟨ads, rfl, hcs⟩ := (own_reads' hlr).2.2 (by omega)
      have hs1 := hcs i hi
      obtain ⟨s, hse⟩ : ∃ s, s = S.getD i 0 := ⟨_, rfl⟩
      rw [← hse] at hs1
      have HSI := Aside0.mk (HSB.out i hi)
      rw [← hse] at HSI
      have HII := Aside0.mk hi
      obtain ⟨g0, rfl⟩ : ∃ g0, gk = g0 + 1 := ⟨gk - 1, by have := HG.out; omega⟩
      have hwi : IntKind.i64.wrap ((i : Int) + 1) = ((i + 1 : Nat) : Int) := by rw [i64_w]; unfold wrap64; omega
      clear hlr hcs hi
      go_wp2
      have fl : ∀ W, VI w c r0 r1 r2 r3 r4 r5 r6 r7 (.slice (some ads) 8 8) S (.slice none 0 0) [] (.slice none 0 0) [] W → W.cell? (ads.add i) = some (.int .i32 s) := fun W hW => by
        have hlr := hW.lr
        rw [HLL.out] at hlr
        obtain ⟨ad2, eA, hcs⟩ := (own_reads' hlr).2.2 (by omega)
        cases eA
        rw [hse]; exact hcs i HII.out
      have f0 : ∀ W, VI w c r0 r1 r2 r3 r4 r5 r6 r7 (.slice (some ads) 8 8) S (.slice none 0 0) [] (.slice none 0 0) [] W → W.cell? ⟨w.heap.size, 0, none⟩ = some (.int .i64 c) := fun W hW => (blk_cell hW.bx 0).trans rfl
      have f1 : ∀ W, VI w c r0 r1 r2 r3 r4 r5 r6 r7 (.slice (some ads) 8 8) S (.slice none 0 0) [] (.slice none 0 0) [] W → W.cell? ⟨w.heap.size, 1, none⟩ = some (.int .i64 r0) := fun W hW => (blk_cell hW.bx 1).trans rfl
      have f2 : ∀ W, VI w c r0 r1 r2 r3 r4 r5 r6 r7 (.slice (some ads) 8 8) S (.slice none 0 0) [] (.slice none 0 0) [] W → W.cell? ⟨w.heap.size, 2, none⟩ = some (.int .i64 r1) := fun W hW => (blk_cell hW.bx 2).trans rfl
      have f3 : ∀ W, VI w c r0 r1 r2 r3 r4 r5 r6 r7 (.slice (some ads) 8 8) S (.slice none 0 0) [] (.slice none 0 0) [] W → W.cell? ⟨w.heap.size, 3, none⟩ = some (.int .i64 r2) := fun W hW => (blk_cell hW.bx 3).trans rfl
      have f4 : ∀ W, VI w c r0 r1 r2 r3 r4 r5 r6 r7 (.slice (some ads) 8 8) S (.slice none 0 0) [] (.slice none 0 0) [] W → W.cell? ⟨w.heap.size, 4, none⟩ = some (.int .i64 r3) := fun W hW => (blk_cell hW.bx 4).trans rfl
      have f5 : ∀ W, VI w c r0 r1 r2 r3 r4 r5 r6 r7 (.slice (some ads) 8 8) S (.slice none 0 0) [] (.slice none 0 0) [] W → W.cell? ⟨w.heap.size, 5, none⟩ = some (.int .i64 r4) := fun W hW => (blk_cell hW.bx 5).trans rfl
      have f6 : ∀ W, VI w c r0 r1 r2 r3 r4 r5 r6 r7 (.slice (some ads) 8 8) S (.slice none 0 0) [] (.slice none 0 0) [] W → W.cell? ⟨w.heap.size, 6, none⟩ = some (.int .i64 r5) := fun W hW => (blk_cell hW.bx 6).trans rfl
      have f7 : ∀ W, VI w c r0 r1 r2 r3 r4 r5 r6 r7 (.slice (some ads) 8 8) S (.slice none 0 0) [] (.slice none 0 0) [] W → W.cell? ⟨w.heap.size, 7, none⟩ = some (.int .i64 r6) := fun W hW => (blk_cell hW.bx 7).trans rfl
      have f8 : ∀ W, VI w c r0 r1 r2 r3 r4 r5 r6 r7 (.slice (some ads) 8 8) S (.slice none 0 0) [] (.slice none 0 0) [] W → W.cell? ⟨w.heap.size, 8, none⟩ = some (.int .i64 r7) := fun W hW => (blk_cell hW.bx 8).trans rfl
      have HS0 := Aside0.mk HI.out
      have HSd := Aside0.mk (HI.out.later (below_drew (Below.refl wr.heap.size wr)))
      clear hse hs1
      go_region_held3 (fun W => VI w c r0 r1 r2 r3 r4 r5 r6 r7 (.slice (some ads) 8 8) S (.slice none 0 0) [] (.slice none 0 0) [] W) (first | exact HS0.out | exact HSd.out | exact HS8.out)
        (first | (go_at_call 41; refine (HSI.out _).mono ?_; rintro e w8 ⟨rfl, hb_⟩; have HS8 := Aside0.mk (HSd.out.later hb_); clear hb_))
      have HI8 := Aside0.mk HS8.out
      clear fl f0 f1 f2 f3 f4 f5 f6 f7 f8 HS0 HSd HS8
      try clear hHeld
      go_wp2
      go_roundg g0
      case measure => omega
      case rel => exact ⟨i + 1, by first | rfl | (congr 1; push_cast; rfl), ⟨by have := HG.out; omega⟩, HI8⟩
    · obtain rfl : i = 8 := by have := HG.out; omega
      clear hi
      go_wp2_with (first | (go_at_call 26; refine (psalteryref15_May.calls A0 c0 x false _ (Kd.C_below HR.out HI.out.be) HC.out HMY.out).mono ?_; rintro e w9 ⟨rfl, hb_⟩; obtain ⟨q8, hq8⟩ := hb_.out; have HI9 := Aside0.mk (HI.out.later (show Below wr.heap.size wr w9 from (by rw [hq8]; exact pw_below_drewN (Below.refl _ _) _))); have x0 := (blk_cell HI9.out.bx 0).trans rfl; have x1 := (blk_cell HI9.out.bx 1).trans rfl; have x2 := (blk_cell HI9.out.bx 2).trans rfl; have x3 := (blk_cell HI9.out.bx 3).trans rfl; have x4 := (blk_cell HI9.out.bx 4).trans rfl; have x5 := (blk_cell HI9.out.bx 5).trans rfl; have x6 := (blk_cell HI9.out.bx 6).trans rfl; have x7 := (blk_cell HI9.out.bx 7).trans rfl; have x8 := (blk_cell HI9.out.bx 8).trans rfl; clear hb_ hq8))
      exact bodyPost_ret (v := .bool true) (by simp [results, Try.results11, go_sem]) rfl ⟨rfl, HI9.out.be⟩
set_option maxRecDepth 100000 in
set_option maxHeartbeats 8000000 in
theorem law_Turns.block (A0 : Option Addr) (c0 : Nat) (x : List Int) (c : Int) (r : List Int) (w : World) (hr0 : Kd.C (Kd.int .i32) w A0 x.length x) (hc0 : x.length ≤ c0) (hx : Lines x) (hr : r.length = 8) (hl : ¬ 300 < x.length) (hk : okShape c r) (he : edE x ≠ []) :
    Calls Try.prog 11 #[.slice A0 x.length c0, shapeV c r] w fun e w' => e = .returned (.bool true) ∧ Below w.heap.size w w' := by
  have q0 : ¬ (300 : Int) < (x.length : Int) := by omega
  have HSY := Aside0.mk (fun w_ => shape_Says.calls c r hr hk w_)
  have HSB := Aside0.mk (fun b hb w_ => ref_Says.calls c r hr hk b hb w_)
  have HRC := Aside0.mk (fun w_ => ref_Check.calls c r hr w_)
  have HCH := Aside0.mk (fun w_ => shape_Check.calls c r hr 0 ⟨by rw [if_pos hk]⟩ w_)
  have HK := Aside0.mk hk
  have HLL := Aside0.mk (saysL_length c r)
  have HR := Aside0.mk hr0
  have HC := Aside0.mk hc0
  have HEV := Aside0.mk (fun w_ g1 => shape_Even.calls A0 c0 x c r w_ g1 hc0 hx he hr hk)
  have HUN := Aside0.mk (fun w_ g1 => shape_Uneven.calls A0 c0 x c r w_ g1 hc0 hx he hr hk)
  have HTE := Aside0.mk (fun w_ g1 => ref_Turn.even A0 c0 x c r w_ g1 hc0 hx he hr hk)
  have HTO := Aside0.mk (fun w_ g1 => ref_Turn.odd A0 c0 x c r w_ g1 hc0 hx he hr hk)
  have HMY := Aside0.mk (show psalteryref15_May.f x = some true from by rw [May_of, decide_eq_true he])
  have HN := Aside0.mk (show x.length ≤ 300 from by omega)
  have HTL := Aside0.mk (turnL_length x (saysL c r) (-1))
  have HUL := Aside0.mk (turnL_length x (saysL c r) 1)
  generalize turnL x (saysL c r) (-1) = TE at HEV HTE HTL
  generalize turnL x (saysL c r) 1 = TU at HUN HTO HUL
  generalize saysL c r = S at HSY HSB HLL
  obtain ⟨r0, r1, r2, r3, r4, r5, r6, r7, rfl⟩ := eight hr
  clear hr0 hc0 hx hr hl hk he
  have HI := Aside0.mk (show VI w c r0 r1 r2 r3 r4 r5 r6 r7 (.slice none 0 0) [] (.slice none 0 0) [] (.slice none 0 0) [] (w.alloc (.cells #[.int .i64 c, .int .i64 r0, .int .i64 r1, .int .i64 r2, .int .i64 r3, .int .i64 r4, .int .i64 r5, .int .i64 r6, .int .i64 r7] 55)) from ⟨blk_new w _, own_nil _ _ _ _, own_nil _ _ _ _, own_nil _ _ _ _, below_alloc (Below.refl w.heap.size w) _⟩)
  simp only [shapeV_eq] at HSY HSB HEV HUN HRC HCH HTE HTO ⊢
  go_enter Try.func11, Try.ntmps11
  go_wp2_with (first | (go_at_call 24; refine (law_alive.calls _).mono ?_; rintro e w1 ⟨rfl, hb_⟩; have HI1 := Aside0.mk (HI.out.later hb_); clear hb_; have x0 := (blk_cell HI1.out.bx 0).trans rfl; have x1 := (blk_cell HI1.out.bx 1).trans rfl; have x2 := (blk_cell HI1.out.bx 2).trans rfl; have x3 := (blk_cell HI1.out.bx 3).trans rfl; have x4 := (blk_cell HI1.out.bx 4).trans rfl; have x5 := (blk_cell HI1.out.bx 5).trans rfl; have x6 := (blk_cell HI1.out.bx 6).trans rfl; have x7 := (blk_cell HI1.out.bx 7).trans rfl; have x8 := (blk_cell HI1.out.bx 8).trans rfl) | (go_at_call 36; refine (HSY.out _).mono ?_; rintro e w3 ⟨As, rfl, g1, hb_⟩; have HI3 := Aside0.mk (HI1.out.setL (m := S) hb_ (by rw [HLL.out]; exact g1)); clear x0 x1 x2 x3 x4 x5 x6 x7 x8; clear g1 hb_; have x0 := (blk_cell HI3.out.bx 0).trans rfl; have x1 := (blk_cell HI3.out.bx 1).trans rfl; have x2 := (blk_cell HI3.out.bx 2).trans rfl; have x3 := (blk_cell HI3.out.bx 3).trans rfl; have x4 := (blk_cell HI3.out.bx 4).trans rfl; have x5 := (blk_cell HI3.out.bx 5).trans rfl; have x6 := (blk_cell HI3.out.bx 6).trans rfl; have x7 := (blk_cell HI3.out.bx 7).trans rfl; have x8 := (blk_cell HI3.out.bx 8).trans rfl) | (go_at_call 37; refine (HEV.out _ (Kd.C_below HR.out HI3.out.be)).mono ?_; rintro e w4 ⟨Aa, ca, rfl, g1, hb_⟩; have HI4 := Aside0.mk (HI3.out.setA (m := TE) hb_ (by rw [HTL.out]; exact g1)); clear x0 x1 x2 x3 x4 x5 x6 x7 x8; clear g1 hb_; have x0 := (blk_cell HI4.out.bx 0).trans rfl; have x1 := (blk_cell HI4.out.bx 1).trans rfl; have x2 := (blk_cell HI4.out.bx 2).trans rfl; have x3 := (blk_cell HI4.out.bx 3).trans rfl; have x4 := (blk_cell HI4.out.bx 4).trans rfl; have x5 := (blk_cell HI4.out.bx 5).trans rfl; have x6 := (blk_cell HI4.out.bx 6).trans rfl; have x7 := (blk_cell HI4.out.bx 7).trans rfl; have x8 := (blk_cell HI4.out.bx 8).trans rfl) | (go_at_call 39; refine (HUN.out _ (Kd.C_below HR.out HI4.out.be)).mono ?_; rintro e w5 ⟨Ab, cb, rfl, g1, hb_⟩; have HI5 := Aside0.mk (HI4.out.setB (m := TU) hb_ (by rw [HUL.out]; exact g1)); clear x0 x1 x2 x3 x4 x5 x6 x7 x8; clear g1 hb_; have x0 := (blk_cell HI5.out.bx 0).trans rfl; have x1 := (blk_cell HI5.out.bx 1).trans rfl; have x2 := (blk_cell HI5.out.bx 2).trans rfl; have x3 := (blk_cell HI5.out.bx 3).trans rfl; have x4 := (blk_cell HI5.out.bx 4).trans rfl; have x5 := (blk_cell HI5.out.bx 5).trans rfl; have x6 := (blk_cell HI5.out.bx 6).trans rfl; have x7 := (blk_cell HI5.out.bx 7).trans rfl; have x8 := (blk_cell HI5.out.bx 8).trans rfl) | (go_at_call 40; refine (HRC.out _).mono ?_; rintro e w6 ⟨b, rfl, hbk, hb_⟩; obtain rfl : b = true := hbk.2 HK.out; have HI6 := Aside0.mk (HI5.out.later hb_); clear x0 x1 x2 x3 x4 x5 x6 x7 x8; clear hb_ hbk; have x0 := (blk_cell HI6.out.bx 0).trans rfl; have x1 := (blk_cell HI6.out.bx 1).trans rfl; have x2 := (blk_cell HI6.out.bx 2).trans rfl; have x3 := (blk_cell HI6.out.bx 3).trans rfl; have x4 := (blk_cell HI6.out.bx 4).trans rfl; have x5 := (blk_cell HI6.out.bx 5).trans rfl; have x6 := (blk_cell HI6.out.bx 6).trans rfl; have x7 := (blk_cell HI6.out.bx 7).trans rfl; have x8 := (blk_cell HI6.out.bx 8).trans rfl) | (go_at_call 38; refine (HCH.out _).mono ?_; rintro e w7 ⟨rfl, hb_⟩; have HI7 := Aside0.mk (HI6.out.later hb_); clear x0 x1 x2 x3 x4 x5 x6 x7 x8; clear hb_))
  go_loopg [12, 61, 62, 63, 64, 65, 66, 67, 68, 69, 70, 71, 72, 73, 74, 75, 76, 77, 78, 79, 80] 8 (fun kq v12 v61 v62 v63 v64 v65 v66 v67 v68 v69 v70 v71 v72 v73 v74 v75 v76 v77 v78 v79 v80 wx => ∃ i : Nat, v12 = .int .i64 (i : Int) ∧ Aside0 (kq + i = 8) ∧ Aside0 (VI w c r0 r1 r2 r3 r4 r5 r6 r7 (.slice As 8 8) S (.slice Aa x.length ca) TE (.slice Ab x.length cb) TU wx))
  case atStart => exact ⟨0, rfl, ⟨rfl⟩, HI7⟩
  case round =>
    clear HI HI1 HI3 HI4 HI5 HI6 HI7
    obtain ⟨i, rfl, HG, HI⟩ := hrel
    by_cases hi : i < 8
    · have hi0 : (0 : Int) ≤ i := by omega
      have hi8 : (i : Int) < 8 := by omega
      have hlr := HI.out.lr
      rw [HLL.out] at hlr
      obtain ⟨ads, rfl, hcs⟩ := (own_reads' hlr).2.2 (by omega)
      have hs1 := hcs i hi
      obtain ⟨s, hse⟩ : ∃ s, s = S.getD i 0 := ⟨_, rfl⟩
      rw [← hse] at hs1
      have HSI := Aside0.mk (HSB.out i hi)
      rw [← hse] at HSI
      have HII := Aside0.mk hi
      obtain ⟨g0, rfl⟩ : ∃ g0, gk = g0 + 1 := ⟨gk - 1, by have := HG.out; omega⟩
      have hwi : IntKind.i64.wrap ((i : Int) + 1) = ((i + 1 : Nat) : Int) := by rw [i64_w]; unfold wrap64; omega
      clear hlr hcs hi
      go_wp2
      have fl : ∀ W, VI w c r0 r1 r2 r3 r4 r5 r6 r7 (.slice (some ads) 8 8) S (.slice Aa x.length ca) TE (.slice Ab x.length cb) TU W → W.cell? (ads.add i) = some (.int .i32 s) := fun W hW => by
        have hlr := hW.lr
        rw [HLL.out] at hlr
        obtain ⟨ad2, eA, hcs⟩ := (own_reads' hlr).2.2 (by omega)
        cases eA
        rw [hse]; exact hcs i HII.out
      have f0 : ∀ W, VI w c r0 r1 r2 r3 r4 r5 r6 r7 (.slice (some ads) 8 8) S (.slice Aa x.length ca) TE (.slice Ab x.length cb) TU W → W.cell? ⟨w.heap.size, 0, none⟩ = some (.int .i64 c) := fun W hW => (blk_cell hW.bx 0).trans rfl
      have f1 : ∀ W, VI w c r0 r1 r2 r3 r4 r5 r6 r7 (.slice (some ads) 8 8) S (.slice Aa x.length ca) TE (.slice Ab x.length cb) TU W → W.cell? ⟨w.heap.size, 1, none⟩ = some (.int .i64 r0) := fun W hW => (blk_cell hW.bx 1).trans rfl
      have f2 : ∀ W, VI w c r0 r1 r2 r3 r4 r5 r6 r7 (.slice (some ads) 8 8) S (.slice Aa x.length ca) TE (.slice Ab x.length cb) TU W → W.cell? ⟨w.heap.size, 2, none⟩ = some (.int .i64 r1) := fun W hW => (blk_cell hW.bx 2).trans rfl
      have f3 : ∀ W, VI w c r0 r1 r2 r3 r4 r5 r6 r7 (.slice (some ads) 8 8) S (.slice Aa x.length ca) TE (.slice Ab x.length cb) TU W → W.cell? ⟨w.heap.size, 3, none⟩ = some (.int .i64 r2) := fun W hW => (blk_cell hW.bx 3).trans rfl
      have f4 : ∀ W, VI w c r0 r1 r2 r3 r4 r5 r6 r7 (.slice (some ads) 8 8) S (.slice Aa x.length ca) TE (.slice Ab x.length cb) TU W → W.cell? ⟨w.heap.size, 4, none⟩ = some (.int .i64 r3) := fun W hW => (blk_cell hW.bx 4).trans rfl
      have f5 : ∀ W, VI w c r0 r1 r2 r3 r4 r5 r6 r7 (.slice (some ads) 8 8) S (.slice Aa x.length ca) TE (.slice Ab x.length cb) TU W → W.cell? ⟨w.heap.size, 5, none⟩ = some (.int .i64 r4) := fun W hW => (blk_cell hW.bx 5).trans rfl
      have f6 : ∀ W, VI w c r0 r1 r2 r3 r4 r5 r6 r7 (.slice (some ads) 8 8) S (.slice Aa x.length ca) TE (.slice Ab x.length cb) TU W → W.cell? ⟨w.heap.size, 6, none⟩ = some (.int .i64 r5) := fun W hW => (blk_cell hW.bx 6).trans rfl
      have f7 : ∀ W, VI w c r0 r1 r2 r3 r4 r5 r6 r7 (.slice (some ads) 8 8) S (.slice Aa x.length ca) TE (.slice Ab x.length cb) TU W → W.cell? ⟨w.heap.size, 7, none⟩ = some (.int .i64 r6) := fun W hW => (blk_cell hW.bx 7).trans rfl
      have f8 : ∀ W, VI w c r0 r1 r2 r3 r4 r5 r6 r7 (.slice (some ads) 8 8) S (.slice Aa x.length ca) TE (.slice Ab x.length cb) TU W → W.cell? ⟨w.heap.size, 8, none⟩ = some (.int .i64 r7) := fun W hW => (blk_cell hW.bx 8).trans rfl
      have HS0 := Aside0.mk HI.out
      have HSd := Aside0.mk (HI.out.later (below_drew (Below.refl wr.heap.size wr)))
      clear hse hs1
      go_region_held3 (fun W => VI w c r0 r1 r2 r3 r4 r5 r6 r7 (.slice (some ads) 8 8) S (.slice Aa x.length ca) TE (.slice Ab x.length cb) TU W) (first | exact HS0.out | exact HSd.out | exact HS8.out)
        (first | (go_at_call 41; refine (HSI.out _).mono ?_; rintro e w8 ⟨rfl, hb_⟩; have HS8 := Aside0.mk (HSd.out.later hb_); clear hb_))
      have HI8 := Aside0.mk HS8.out
      clear fl f0 f1 f2 f3 f4 f5 f6 f7 f8 HS0 HSd HS8
      try clear hHeld
      go_wp2
      go_roundg g0
      case measure => omega
      case rel => exact ⟨i + 1, by first | rfl | (congr 1; push_cast; rfl), ⟨by have := HG.out; omega⟩, HI8⟩
    · obtain rfl : i = 8 := by have := HG.out; omega
      clear hi
      go_wp2_with (first | (go_at_call 26; refine (psalteryref15_May.calls A0 c0 x true _ (Kd.C_below HR.out HI.out.be) HC.out HMY.out).mono ?_; rintro e w9 ⟨rfl, hb_⟩; obtain ⟨q8, hq8⟩ := hb_.out; have HI9 := Aside0.mk (HI.out.later (show Below wr.heap.size wr w9 from (by rw [hq8]; exact pw_below_drewN (Below.refl _ _) _))); have x0 := (blk_cell HI9.out.bx 0).trans rfl; have x1 := (blk_cell HI9.out.bx 1).trans rfl; have x2 := (blk_cell HI9.out.bx 2).trans rfl; have x3 := (blk_cell HI9.out.bx 3).trans rfl; have x4 := (blk_cell HI9.out.bx 4).trans rfl; have x5 := (blk_cell HI9.out.bx 5).trans rfl; have x6 := (blk_cell HI9.out.bx 6).trans rfl; have x7 := (blk_cell HI9.out.bx 7).trans rfl; have x8 := (blk_cell HI9.out.bx 8).trans rfl; clear hb_ hq8) | (go_at_call 42; refine (HTO.out _ (Kd.C_below HR.out HI11.out.be)).mono ?_; rintro e w12 ⟨Au, cu, rfl, g1, hb_⟩; have HI12 := Aside0.mk (HI11.out.later hb_); have HT12 := Aside0.mk g1; clear y0 y1 y2 y3 y4 y5 y6 y7 y8; clear g1 hb_) | (go_at_call 35; refine (same_rows Ab Au cb cu x.length _ _ _ _ TU HUL.out HN.out _ (by have t_ := HI12.out.br; rw [HUL.out] at t_; exact t_) HT12.out).mono ?_; rintro e w13 ⟨rfl, hb_⟩; have HI13 := Aside0.mk (HI12.out.later hb_); clear hb_) | (go_at_call 42; refine (HTE.out _ (Kd.C_below HR.out HI9.out.be)).mono ?_; rintro e w10 ⟨At, ct, rfl, g1, hb_⟩; have HI10 := Aside0.mk (HI9.out.later hb_); have HT10 := Aside0.mk g1; clear x0 x1 x2 x3 x4 x5 x6 x7 x8; clear g1 hb_) | (go_at_call 35; refine (same_rows Aa At ca ct x.length _ _ _ _ TE HTL.out HN.out _ (by have t_ := HI10.out.ar; rw [HTL.out] at t_; exact t_) HT10.out).mono ?_; rintro e w11 ⟨rfl, hb_⟩; have HI11 := Aside0.mk (HI10.out.later hb_); have y0 := (blk_cell HI11.out.bx 0).trans rfl; have y1 := (blk_cell HI11.out.bx 1).trans rfl; have y2 := (blk_cell HI11.out.bx 2).trans rfl; have y3 := (blk_cell HI11.out.bx 3).trans rfl; have y4 := (blk_cell HI11.out.bx 4).trans rfl; have y5 := (blk_cell HI11.out.bx 5).trans rfl; have y6 := (blk_cell HI11.out.bx 6).trans rfl; have y7 := (blk_cell HI11.out.bx 7).trans rfl; have y8 := (blk_cell HI11.out.bx 8).trans rfl; clear hb_))
      exact bodyPost_ret (v := .bool true) (by simp [results, Try.results11, go_sem]) rfl ⟨rfl, HI13.out.be⟩
theorem law_Turns.calls (A0 : Option Addr) (c0 : Nat) (x : List Int) (c : Int) (r : List Int) (w : World) (hr0 : Kd.C (Kd.int .i32) w A0 x.length x) (hc0 : x.length ≤ c0) (hx : Lines x) (hr : r.length = 8) :
    Calls Try.prog 11 #[.slice A0 x.length c0, shapeV c r] w fun e w' => e = .returned (.bool true) ∧ Below w.heap.size w w' := by
  by_cases hl : 300 < x.length
  · exact law_Turns.long A0 c0 x c r w hr0 hc0 hx hr hl
  · by_cases hk : okShape c r
    · by_cases he : edE x = []
      · exact law_Turns.noBlock A0 c0 x c r w hr0 hc0 hx hr hl hk he
      · exact law_Turns.block A0 c0 x c r w hr0 hc0 hx hr hl hk he
    · exact law_Turns.noShape A0 c0 x c r w hr0 hc0 hx hr hl hk
end Go.Proofs.Ytblehkoonajofaa.PShape
