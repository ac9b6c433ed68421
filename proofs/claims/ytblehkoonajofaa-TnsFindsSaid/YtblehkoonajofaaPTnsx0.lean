/- Contracts of the functions that the law Tns reaches: each Go function as a Lean function, and that the Go text comes to it. Written by programs (wip/tools), out of the program's own loaded form. -/
import Derived.Test.YtblehkoonajofaaProg
import Derived.Below
import Derived.Deep.Draws
import Derived.Deep.AppendLies
import Derived.Maps.AppendAt
import Derived.OwnWalk
import Derived.Laws.BytesArg
import Derived.Laws.MakeOwn
import Derived.Laws.OwnMore
import Derived.Deep.OwnRows
import Derived.Tactics
import Derived.Lib.ConvBytes
import Derived.Laws.Slices
import Derived.WalkKit
import Derived.KernelRfl
import Derived.RowKit3
import Derived.Deep.LoopGhost
import Derived.Deep.QuietTactic
import Derived.BigQuiet
import Derived.WideLaws
import Derived.Deep.DeepCutAuto
import Derived.Deep.CutBlock
import Derived.Deep.RegionHeld3
import Derived.Laws.Rows
import Derived.Lib.AppendStr
import Derived.ArgAppend
import Derived.Laws.IdiomCopy
import Derived.OrdersHeld
import Derived.Laws.BitsLemmas
import Derived.RowKit
import Derived.Test.YtblehkoonajofaaWWords
import Derived.Test.YtblehkoonajofaaWLast
import Derived.Test.YtblehkoonajofaaWTab
import Derived.Test.YtblehkoonajofaaWFour
import Derived.Test.YtblehkoonajofaaWQPut
import Derived.Test.YtblehkoonajofaaWApart
import Derived.Test.YtblehkoonajofaaWArr
import Derived.Test.YtblehkoonajofaaWZeros
import Derived.Test.YtblehkoonajofaaWFoot
import Derived.Test.YtblehkoonajofaaWKept
import Derived.Test.YtblehkoonajofaaWShare
import Derived.Test.YtblehkoonajofaaWN
import Derived.Test.YtblehkoonajofaaWFootNe
import Derived.Test.YtblehkoonajofaaWAt
import Derived.Test.YtblehkoonajofaaWEqStruct
import Derived.Test.YtblehkoonajofaaWRepsOne
import Derived.Test.YtblehkoonajofaaWInv
import Derived.Test.YtblehkoonajofaaWInvWords
import Derived.Test.YtblehkoonajofaaWGuard
import Derived.Test.YtblehkoonajofaaWNEv
import Derived.Test.YtblehkoonajofaaWMore
namespace Go.Proofs.Ytblehkoonajofaa.PTns
open Go.RowKit Go.Proofs.YtblehkoonajofaaW.PrintWords Go.Proofs.YtblehkoonajofaaW.PrintLast Go.Proofs.YtblehkoonajofaaW.PrintMore
attribute [local go_sem] max2_int min2_int max_two min_two max_three min_three max_four min_four   -- for this text's walks alone
set_option linter.unusedVariables false
set_option linter.unusedSimpArgs false



def errW : Option Int → Value
  | none => .nilIface
  | some c => .iface 0 (.int .i64 c)
theorem errW_none : errW none = .nilIface := rfl
theorem errW_some (c : Int) : errW (some c) = .iface 0 (.int .i64 c) := rfl

-- the values' own types

end Go.Proofs.Ytblehkoonajofaa.PTns
