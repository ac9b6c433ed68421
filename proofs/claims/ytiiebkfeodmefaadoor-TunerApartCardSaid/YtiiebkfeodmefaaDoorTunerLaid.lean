/- Tuner: what the row's listed variables give the walk: the table of strconv. -/
import Derived.Test.YtiiebkfeodmefaaDoorRows
import Derived.Test.YtiiebkfeodmefaaDoorPTunerx1b
import Derived.WalkKit
import Derived.ProofKit
import Derived.LaidMore
import Derived.OpenShut
import Derived.Stop.Joined
import Derived.Lib.LaidTab
namespace Go.Proofs.YtiiebkfeodmefaaDoor.TunerLaid
open Go.ChangeShapes Go.WideShapes Go.ChangeAt Go.RowKit
def laid3 : List (String × DataW Unit) := [("math/bits.deBruijn32tab", Rows.laid_math_bits_deBruijn32tab), ("math/bits.deBruijn64tab", Rows.laid_math_bits_deBruijn64tab), ("internal/strconv.uint64pow10", Rows.laid_internal_strconv_uint64pow10)]
theorem door_met (os : Os) (args : Array Value) : laidMetH Tryd.prog laid3 ((World.doorLaid Tryd.prog 2000 os).forCall (fun _ _ => 0) ⟨#[], args, []⟩).memory :=
  laidMetH_of_parts3 (fuel := 8) (laidMet_of_run' 8 (by kernel_rfl) (by kernel_rfl)) (by kernel_rfl) (by kernel_rfl)
theorem data_eq : (Rows.laid_internal_strconv_uint64pow10 : DataW Unit) = Lib.tabData .u64 Lib.pow10Tab := by kernel_rfl
theorem of_laid {W : World} (h : laidMetH Tryd.prog laid3 W) : PTuner.Tab W := by
  rw [MakeChecks.laidMetH_plain _ _ _ (by kernel_rfl)] at h
  obtain ⟨ps, ⟨g0, t0, cs0, f0, p0, q0, hg0, ht0, hv0, hd0, ⟨g1, t1, cs1, f1, p1, q1, hg1, ht1, hv1, hd1, ⟨g2, t2, cs2, f2, p2, q2, hg2, ht2, hv2, hd2, _, _⟩, _⟩, _⟩, _⟩ := h
  rw [data_eq] at hd2
  obtain rfl : g2 = 0 := Option.some.inj (hg2.symm.trans (show Tryd.prog.globalNamed "internal/strconv.uint64pow10" = some 0 from by kernel_rfl))
  have ht : (Tryd.prog.globals[0]?).map (·.type) = some 130 := by kernel_rfl
  obtain rfl := Option.some.inj (ht.symm.trans ht2)
  unfold PTuner.Tab Lib.TabIs
  rw [hv2, ← Lib.cells_of_tab Tryd.underlying130 Tryd.underlying22 (by kernel_rfl) (by kernel_rfl) hd2]
end Go.Proofs.YtiiebkfeodmefaaDoor.TunerLaid
