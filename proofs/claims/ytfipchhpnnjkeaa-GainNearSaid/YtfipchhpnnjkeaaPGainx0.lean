/- Contracts of the functions that the law Gain reaches: each Go function as a Lean function, and that the Go text comes to it. Written by programs (wip/tools), out of the program's own loaded form. -/
import Derived.Test.YtfipchhpnnjkeaaProg
import Derived.Below
import Derived.Deep.Draws
import Derived.Deep.AppendLies
import Derived.Maps.AppendAt
import Derived.OwnWalk
import Derived.Laws.BytesArg
import Derived.Laws.MakeOwn
import Derived.Laws.OwnMore
import Derived.Deep.OwnRows
import Derived.Tactics
import Derived.Lib.ConvBytes
import Derived.Laws.Slices
import Derived.WalkKit
import Derived.KernelRfl
import Derived.RowKit3
import Derived.Deep.LoopGhost
import Derived.Deep.QuietTactic
import Derived.BigQuiet
import Derived.WideLaws
import Derived.Deep.DeepCutAuto
import Derived.Deep.CutBlock
import Derived.Deep.RegionHeld3
import Derived.Laws.Rows
import Derived.Lib.AppendStr
import Derived.ArgAppend
import Derived.Laws.IdiomCopy
import Derived.OrdersHeld
import Derived.Laws.BitsLemmas
import Derived.RowKit
import Derived.Test.YtfipchhpnnjkeaaWWords
import Derived.Test.YtfipchhpnnjkeaaWLast
import Derived.Test.YtfipchhpnnjkeaaWTab
import Derived.Test.YtfipchhpnnjkeaaWFour
import Derived.Test.YtfipchhpnnjkeaaWQPut
import Derived.Test.YtfipchhpnnjkeaaWApart
import Derived.Test.YtfipchhpnnjkeaaWArr
import Derived.Test.YtfipchhpnnjkeaaWZeros
import Derived.Test.YtfipchhpnnjkeaaWFoot
import Derived.Test.YtfipchhpnnjkeaaWKept
import Derived.Test.YtfipchhpnnjkeaaWShare
import Derived.Test.YtfipchhpnnjkeaaWN
import Derived.Test.YtfipchhpnnjkeaaWFootNe
import Derived.Test.YtfipchhpnnjkeaaWAt
import Derived.Test.YtfipchhpnnjkeaaWEqStruct
import Derived.Test.YtfipchhpnnjkeaaWRepsOne
import Derived.Test.YtfipchhpnnjkeaaWInv
import Derived.Test.YtfipchhpnnjkeaaWInvWords
import Derived.Test.YtfipchhpnnjkeaaWGuard
import Derived.Test.YtfipchhpnnjkeaaWNEv
import Derived.Test.YtfipchhpnnjkeaaWMore
namespace Go.Proofs.Ytfipchhpnnjkeaa.PGain
open Go.RowKit Go.Proofs.YtfipchhpnnjkeaaW.PrintWords Go.Proofs.YtfipchhpnnjkeaaW.PrintLast Go.Proofs.YtfipchhpnnjkeaaW.PrintMore
attribute [local go_sem] max2_int min2_int max_two min_two max_three min_three max_four min_four   -- for this text's walks alone
set_option linter.unusedVariables false
set_option linter.unusedSimpArgs false



def errW : Option Int → Value
  | none => .nilIface
  | some c => .iface 0 (.int .i64 c)
theorem errW_none : errW none = .nilIface := rfl
theorem errW_some (c : Int) : errW (some c) = .iface 0 (.int .i64 c) := rfl

theorem info3 : (Try.prog.info? 3).map (fun i => (i.zero, i.size, i.bytes)) = some (some (.int .i64 0), 1, 8) := by kernel_rfl
theorem info21 : (Try.prog.info? 21).map (fun i => (i.zero, i.size, i.bytes)) = some (some (.int .i32 0), 1, 4) := by kernel_rfl
theorem info25 : (Try.prog.info? 25).map (fun i => (i.zero, i.size, i.bytes)) = some (some (.int .u64 0), 1, 8) := by kernel_rfl
-- the values' own types

end Go.Proofs.Ytfipchhpnnjkeaa.PGain
