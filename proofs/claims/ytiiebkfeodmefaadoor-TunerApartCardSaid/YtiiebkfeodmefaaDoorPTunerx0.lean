/- Contracts of the functions that the law Tuner reaches: each Go function as a Lean function, and that the Go text comes to it. Written by programs (wip/tools), out of the program's own loaded form. -/
import Derived.Test.YtiiebkfeodmefaaDoorProg
import Derived.Below
import Derived.Deep.Draws
import Derived.Deep.AppendLies
import Derived.Maps.AppendAt
import Derived.OwnWalk
import Derived.Laws.BytesArg
import Derived.Laws.MakeOwn
import Derived.Laws.OwnMore
import Derived.Deep.OwnRows
import Derived.Tactics
import Derived.Lib.ConvBytes
import Derived.Laws.Slices
import Derived.WalkKit
import Derived.KernelRfl
import Derived.RowKit3
import Derived.Deep.LoopGhost
import Derived.Deep.QuietTactic
import Derived.BigQuiet
import Derived.WideLaws
import Derived.Deep.DeepCutAuto
import Derived.Deep.CutBlock
import Derived.Deep.RegionHeld3
import Derived.Laws.Rows
import Derived.Lib.AppendStr
import Derived.ArgAppend
import Derived.Laws.IdiomCopy
import Derived.OrdersHeld
import Derived.Laws.BitsLemmas
import Derived.RowKit
import Derived.Test.YtiiebkfeodmefaaDoorWWords
import Derived.Test.YtiiebkfeodmefaaDoorWLast
import Derived.Test.YtiiebkfeodmefaaDoorWTab
import Derived.Test.YtiiebkfeodmefaaDoorWFour
import Derived.Test.YtiiebkfeodmefaaDoorWQPut
import Derived.Test.YtiiebkfeodmefaaDoorWApart
import Derived.Test.YtiiebkfeodmefaaDoorWArr
import Derived.Test.YtiiebkfeodmefaaDoorWZeros
import Derived.Test.YtiiebkfeodmefaaDoorWFoot
import Derived.Test.YtiiebkfeodmefaaDoorWKept
import Derived.Test.YtiiebkfeodmefaaDoorWShare
import Derived.Test.YtiiebkfeodmefaaDoorWN
import Derived.Test.YtiiebkfeodmefaaDoorWFootNe
import Derived.Test.YtiiebkfeodmefaaDoorWAt
import Derived.Test.YtiiebkfeodmefaaDoorWEqStruct
import Derived.Test.YtiiebkfeodmefaaDoorWRepsOne
import Derived.Test.YtiiebkfeodmefaaDoorWInv
import Derived.Test.YtiiebkfeodmefaaDoorWInvWords
import Derived.Test.YtiiebkfeodmefaaDoorWGuard
import Derived.Test.YtiiebkfeodmefaaDoorWNEv
import Derived.Test.YtiiebkfeodmefaaDoorWMore
namespace Go.Proofs.YtiiebkfeodmefaaDoor.PTuner
open Go.RowKit Go.Proofs.YtiiebkfeodmefaaDoorW.PrintWords Go.Proofs.YtiiebkfeodmefaaDoorW.PrintLast Go.Proofs.YtiiebkfeodmefaaDoorW.PrintMore
attribute [local go_sem] max2_int min2_int max_two min_two max_three min_three max_four min_four   -- for this text's walks alone
set_option linter.unusedVariables false
set_option linter.unusedSimpArgs false



def errW : Option Int → Value
  | none => .nilIface
  | some c => .iface 0 (.int .i64 c)
theorem errW_none : errW none = .nilIface := rfl
theorem errW_some (c : Int) : errW (some c) = .iface 0 (.int .i64 c) := rfl

theorem info40 : (Tryd.prog.info? 40).map (fun i => (i.zero, i.size, i.bytes)) = some (some (.int .i16 0), 1, 2) := by kernel_rfl
-- the values' own types

end Go.Proofs.YtiiebkfeodmefaaDoor.PTuner
