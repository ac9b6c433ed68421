/- Contracts of the functions that the law Band reaches: each Go function as a Lean function, and that the Go text comes to it. Written by programs (wip/tools), out of the program's own loaded form. -/
import Derived.Test.YtgmgdbcfgbgnlaaProg
import Derived.Below
import Derived.Deep.Draws
import Derived.Deep.AppendLies
import Derived.Maps.AppendAt
import Derived.OwnWalk
import Derived.Laws.BytesArg
import Derived.Laws.MakeOwn
import Derived.Laws.OwnMore
import Derived.Deep.OwnRows
import Derived.Tactics
import Derived.Lib.ConvBytes
import Derived.Laws.Slices
import Derived.WalkKit
import Derived.KernelRfl
import Derived.RowKit3
import Derived.Deep.LoopGhost
import Derived.Deep.QuietTactic
import Derived.BigQuiet
import Derived.WideLaws
import Derived.Deep.DeepCutAuto
import Derived.Deep.CutBlock
import Derived.Deep.RegionHeld3
import Derived.Laws.Rows
import Derived.Lib.AppendStr
import Derived.ArgAppend
import Derived.Laws.IdiomCopy
import Derived.OrdersHeld
import Derived.Laws.BitsLemmas
import Derived.RowKit
import Derived.Test.YtgmgdbcfgbgnlaaWWords
import Derived.Test.YtgmgdbcfgbgnlaaWLast
import Derived.Test.YtgmgdbcfgbgnlaaWTab
import Derived.Test.YtgmgdbcfgbgnlaaWFour
import Derived.Test.YtgmgdbcfgbgnlaaWQPut
import Derived.Test.YtgmgdbcfgbgnlaaWApart
import Derived.Test.YtgmgdbcfgbgnlaaWArr
import Derived.Test.YtgmgdbcfgbgnlaaWZeros
import Derived.Test.YtgmgdbcfgbgnlaaWFoot
import Derived.Test.YtgmgdbcfgbgnlaaWKept
import Derived.Test.YtgmgdbcfgbgnlaaWShare
import Derived.Test.YtgmgdbcfgbgnlaaWN
import Derived.Test.YtgmgdbcfgbgnlaaWFootNe
import Derived.Test.YtgmgdbcfgbgnlaaWAt
import Derived.Test.YtgmgdbcfgbgnlaaWEqStruct
import Derived.Test.YtgmgdbcfgbgnlaaWRepsOne
import Derived.Test.YtgmgdbcfgbgnlaaWInv
import Derived.Test.YtgmgdbcfgbgnlaaWInvWords
import Derived.Test.YtgmgdbcfgbgnlaaWGuard
import Derived.Test.YtgmgdbcfgbgnlaaWNEv
import Derived.Test.YtgmgdbcfgbgnlaaWMore
namespace Go.Proofs.Ytgmgdbcfgbgnlaa.PBand
open Go.RowKit Go.Proofs.YtgmgdbcfgbgnlaaW.PrintWords Go.Proofs.YtgmgdbcfgbgnlaaW.PrintLast Go.Proofs.YtgmgdbcfgbgnlaaW.PrintMore
attribute [local go_sem] max2_int min2_int max_two min_two max_three min_three max_four min_four   -- for this text's walks alone
set_option linter.unusedVariables false
set_option linter.unusedSimpArgs false



def errW : Option Int → Value
  | none => .nilIface
  | some c => .iface 0 (.int .i64 c)
theorem errW_none : errW none = .nilIface := rfl
theorem errW_some (c : Int) : errW (some c) = .iface 0 (.int .i64 c) := rfl

theorem info3 : (Try.prog.info? 3).map (fun i => (i.zero, i.size, i.bytes)) = some (some (.int .i64 0), 1, 8) := by kernel_rfl
theorem info21 : (Try.prog.info? 21).map (fun i => (i.zero, i.size, i.bytes)) = some (some (.int .i32 0), 1, 4) := by kernel_rfl
theorem info66 : (Try.prog.info? 66).map (fun i => (i.zero, i.size, i.bytes)) = some (some (.int .u64 0), 1, 8) := by kernel_rfl
-- the values' own types

end Go.Proofs.Ytgmgdbcfgbgnlaa.PBand
