/-
  No cell of these rows narrows 'for every input' (looked for: loops, veiled, ifaces, maps, wideKeys, modest, calm, conditions, laid).
  DERIVED. THE GIVEN ROWS OF THIS SEAT. 11 by the template 'for every input the law returns true; each argument reads behind the call as it read before'; 0 by the template 'total and deterministic' (their statements: YtfipchhpnnjkeaaTotals.lean).
  GIVEN WITH THE SEED: the statements are not yours to turn. If you find one false, say at which input.
  Laid BY PROGRAM, IN A SANDBOX (cutbox-rows.mjs): the forced cells as the released guide's own fill.sh prints them over the translation af025465f8a4fe0f… (all of the seat's roots in one cut). By AI agents, Wed Nov 11 2026. No macro, syntax, notation, axiom, sorry.
-/
import Derived.Test.YtfipchhpnnjkeaaChecked
import GoSem.Claim
import GoSem.ClaimJoined
import GoSem.ClaimMapViews
import Derived.JoinedTies
import Derived.KernelRfl
namespace Go.Proofs.Ytfipchhpnnjkeaa
/- THE CELL 'sum', in the pinned program and in every row, IS THE sha256 OF THE DUMP (.gsa) THAT YtfipchhpnnjkeaaProg.lean LOADS. Nothing in Lean hashes anything: it is a label: what it is worth is what the hold of that sum in a sandbox is worth. -/
noncomputable def Try.pinned : Pinned := { name := "ytfipchhpnnjkeaa", sum := "af025465f8a4fe0ff61f044549f053b120347ad749d5ceeef8509a9ff3e89c7b", checked := Try.checked }
namespace Rows
def none {H : Type} : Left H := { results := [], args := [] }

/-- 'psalterylaw19.GainSteps': WHATEVER THE INPUT: true; the input reads as it did. -/
def gainStepsSpec : ChangeSpec := { name := "gainSteps", fn := fun _ => fun
  | [d1, d2] => { results := [.lit (.bool true)], args := [d1, d2] }
  | _ => none }
def gainStepsRow : OpenClaim := { program := "ytfipchhpnnjkeaa", sum := "af025465f8a4fe0ff61f044549f053b120347ad749d5ceeef8509a9ff3e89c7b", func := "psaltery/psalterylaw19.GainSteps", spec := "gainSteps", apart := false }
def GainStepsSaid : Prop := gainStepsRow.holds Try.pinned (OpenSpec.ofChange gainStepsSpec)

/-- ITS FALSE NEIGHBOUR: 'it returns false'. Refute it at one input. -/
def gainStepsWrong : ChangeSpec := { name := "gainSteps", fn := fun _ => fun
  | [d1, d2] => { results := [.lit (.bool false)], args := [d1, d2] }
  | _ => none }
def GainStepsWrongFalsely : Prop := gainStepsRow.holds Try.pinned (OpenSpec.ofChange gainStepsWrong)

/-- 'psalterylaw19.GainOrder': WHATEVER THE INPUT: true; the input reads as it did. -/
def gainOrderSpec : ChangeSpec := { name := "gainOrder", fn := fun _ => fun
  | [d1, d2, d3] => { results := [.lit (.bool true)], args := [d1, d2, d3] }
  | _ => none }
def gainOrderRow : OpenClaim := { program := "ytfipchhpnnjkeaa", sum := "af025465f8a4fe0ff61f044549f053b120347ad749d5ceeef8509a9ff3e89c7b", func := "psaltery/psalterylaw19.GainOrder", spec := "gainOrder", apart := false }
def GainOrderSaid : Prop := gainOrderRow.holds Try.pinned (OpenSpec.ofChange gainOrderSpec)

/-- ITS FALSE NEIGHBOUR: 'it returns false'. Refute it at one input. -/
def gainOrderWrong : ChangeSpec := { name := "gainOrder", fn := fun _ => fun
  | [d1, d2, d3] => { results := [.lit (.bool false)], args := [d1, d2, d3] }
  | _ => none }
def GainOrderWrongFalsely : Prop := gainOrderRow.holds Try.pinned (OpenSpec.ofChange gainOrderWrong)

/-- 'psalterylaw02.LogsReckon': WHATEVER THE INPUT: true; the input reads as it did. -/
def logsReckonSpec : ChangeSpec := { name := "logsReckon", fn := fun _ => fun
  | [d] => { results := [.lit (.bool true)], args := [d] }
  | _ => none }
def logsReckonRow : OpenClaim := { program := "ytfipchhpnnjkeaa", sum := "af025465f8a4fe0ff61f044549f053b120347ad749d5ceeef8509a9ff3e89c7b", func := "psaltery/psalterylaw02.LogsReckon", spec := "logsReckon", apart := false }
def LogsReckonSaid : Prop := logsReckonRow.holds Try.pinned (OpenSpec.ofChange logsReckonSpec)

/-- ITS FALSE NEIGHBOUR: 'it returns false'. Refute it at one input. -/
def logsReckonWrong : ChangeSpec := { name := "logsReckon", fn := fun _ => fun
  | [d] => { results := [.lit (.bool false)], args := [d] }
  | _ => none }
def LogsReckonWrongFalsely : Prop := logsReckonRow.holds Try.pinned (OpenSpec.ofChange logsReckonWrong)

/-- 'psalterylaw02.LogsPower': WHATEVER THE INPUT: true; the input reads as it did. -/
def logsPowerSpec : ChangeSpec := { name := "logsPower", fn := fun _ => fun
  | [d] => { results := [.lit (.bool true)], args := [d] }
  | _ => none }
def logsPowerRow : OpenClaim := { program := "ytfipchhpnnjkeaa", sum := "af025465f8a4fe0ff61f044549f053b120347ad749d5ceeef8509a9ff3e89c7b", func := "psaltery/psalterylaw02.LogsPower", spec := "logsPower", apart := false }
def LogsPowerSaid : Prop := logsPowerRow.holds Try.pinned (OpenSpec.ofChange logsPowerSpec)

/-- ITS FALSE NEIGHBOUR: 'it returns false'. Refute it at one input. -/
def logsPowerWrong : ChangeSpec := { name := "logsPower", fn := fun _ => fun
  | [d] => { results := [.lit (.bool false)], args := [d] }
  | _ => none }
def LogsPowerWrongFalsely : Prop := logsPowerRow.holds Try.pinned (OpenSpec.ofChange logsPowerWrong)

/-- 'psalterylaw02.LogsGrow': WHATEVER THE INPUT: true; the input reads as it did. -/
def logsGrowSpec : ChangeSpec := { name := "logsGrow", fn := fun _ => fun
  | [d1, d2, d3, d4] => { results := [.lit (.bool true)], args := [d1, d2, d3, d4] }
  | _ => none }
def logsGrowRow : OpenClaim := { program := "ytfipchhpnnjkeaa", sum := "af025465f8a4fe0ff61f044549f053b120347ad749d5ceeef8509a9ff3e89c7b", func := "psaltery/psalterylaw02.LogsGrow", spec := "logsGrow", apart := false }
def LogsGrowSaid : Prop := logsGrowRow.holds Try.pinned (OpenSpec.ofChange logsGrowSpec)

/-- ITS FALSE NEIGHBOUR: 'it returns false'. Refute it at one input. -/
def logsGrowWrong : ChangeSpec := { name := "logsGrow", fn := fun _ => fun
  | [d1, d2, d3, d4] => { results := [.lit (.bool false)], args := [d1, d2, d3, d4] }
  | _ => none }
def LogsGrowWrongFalsely : Prop := logsGrowRow.holds Try.pinned (OpenSpec.ofChange logsGrowWrong)

/-- 'psalterylaw02.LogsNear': WHATEVER THE INPUT: true; the input reads as it did. -/
def logsNearSpec : ChangeSpec := { name := "logsNear", fn := fun _ => fun
  | [d] => { results := [.lit (.bool true)], args := [d] }
  | _ => none }
def logsNearRow : OpenClaim := { program := "ytfipchhpnnjkeaa", sum := "af025465f8a4fe0ff61f044549f053b120347ad749d5ceeef8509a9ff3e89c7b", func := "psaltery/psalterylaw02.LogsNear", spec := "logsNear", apart := false }
def LogsNearSaid : Prop := logsNearRow.holds Try.pinned (OpenSpec.ofChange logsNearSpec)

/-- ITS FALSE NEIGHBOUR: 'it returns false'. Refute it at one input. -/
def logsNearWrong : ChangeSpec := { name := "logsNear", fn := fun _ => fun
  | [d] => { results := [.lit (.bool false)], args := [d] }
  | _ => none }
def LogsNearWrongFalsely : Prop := logsNearRow.holds Try.pinned (OpenSpec.ofChange logsNearWrong)

/-- 'psalterylaw31.MeterDelays': WHATEVER THE INPUT: true; the input reads as it did. -/
def meterDelaysSpec : ChangeSpec := { name := "meterDelays", fn := fun _ => fun
  | [d1, d2, d3] => { results := [.lit (.bool true)], args := [d1, d2, d3] }
  | _ => none }
def meterDelaysRow : OpenClaim := { program := "ytfipchhpnnjkeaa", sum := "af025465f8a4fe0ff61f044549f053b120347ad749d5ceeef8509a9ff3e89c7b", func := "psaltery/psalterylaw31.MeterDelays", spec := "meterDelays", apart := false }
def MeterDelaysSaid : Prop := meterDelaysRow.holds Try.pinned (OpenSpec.ofChange meterDelaysSpec)

/-- ITS FALSE NEIGHBOUR: 'it returns false'. Refute it at one input. -/
def meterDelaysWrong : ChangeSpec := { name := "meterDelays", fn := fun _ => fun
  | [d1, d2, d3] => { results := [.lit (.bool false)], args := [d1, d2, d3] }
  | _ => none }
def MeterDelaysWrongFalsely : Prop := meterDelaysRow.holds Try.pinned (OpenSpec.ofChange meterDelaysWrong)

/-- 'psalterylaw31.MeterTells': WHATEVER THE INPUT: true; the input reads as it did. -/
def meterTellsSpec : ChangeSpec := { name := "meterTells", fn := fun _ => fun
  | [d1, d2] => { results := [.lit (.bool true)], args := [d1, d2] }
  | _ => none }
def meterTellsRow : OpenClaim := { program := "ytfipchhpnnjkeaa", sum := "af025465f8a4fe0ff61f044549f053b120347ad749d5ceeef8509a9ff3e89c7b", func := "psaltery/psalterylaw31.MeterTells", spec := "meterTells", apart := false }
def MeterTellsSaid : Prop := meterTellsRow.holds Try.pinned (OpenSpec.ofChange meterTellsSpec)

/-- ITS FALSE NEIGHBOUR: 'it returns false'. Refute it at one input. -/
def meterTellsWrong : ChangeSpec := { name := "meterTells", fn := fun _ => fun
  | [d1, d2] => { results := [.lit (.bool false)], args := [d1, d2] }
  | _ => none }
def MeterTellsWrongFalsely : Prop := meterTellsRow.holds Try.pinned (OpenSpec.ofChange meterTellsWrong)

/-- 'psalterylaw31.MeterLate': WHATEVER THE INPUT: true; the input reads as it did. -/
def meterLateSpec : ChangeSpec := { name := "meterLate", fn := fun _ => fun
  | [d1, d2, d3, d4] => { results := [.lit (.bool true)], args := [d1, d2, d3, d4] }
  | _ => none }
def meterLateRow : OpenClaim := { program := "ytfipchhpnnjkeaa", sum := "af025465f8a4fe0ff61f044549f053b120347ad749d5ceeef8509a9ff3e89c7b", func := "psaltery/psalterylaw31.MeterLate", spec := "meterLate", apart := false }
def MeterLateSaid : Prop := meterLateRow.holds Try.pinned (OpenSpec.ofChange meterLateSpec)

/-- ITS FALSE NEIGHBOUR: 'it returns false'. Refute it at one input. -/
def meterLateWrong : ChangeSpec := { name := "meterLate", fn := fun _ => fun
  | [d1, d2, d3, d4] => { results := [.lit (.bool false)], args := [d1, d2, d3, d4] }
  | _ => none }
def MeterLateWrongFalsely : Prop := meterLateRow.holds Try.pinned (OpenSpec.ofChange meterLateWrong)

/-- 'psalterylaw19.GainRestores': WHATEVER THE INPUT: true; the input reads as it did. -/
def gainRestoresSpec : ChangeSpec := { name := "gainRestores", fn := fun _ => fun
  | [d1, d2, d3, d4, d5] => { results := [.lit (.bool true)], args := [d1, d2, d3, d4, d5] }
  | _ => none }
def gainRestoresRow : OpenClaim := { program := "ytfipchhpnnjkeaa", sum := "af025465f8a4fe0ff61f044549f053b120347ad749d5ceeef8509a9ff3e89c7b", func := "psaltery/psalterylaw19.GainRestores", spec := "gainRestores", apart := false }
def GainRestoresSaid : Prop := gainRestoresRow.holds Try.pinned (OpenSpec.ofChange gainRestoresSpec)

/-- ITS FALSE NEIGHBOUR: 'it returns false'. Refute it at one input. -/
def gainRestoresWrong : ChangeSpec := { name := "gainRestores", fn := fun _ => fun
  | [d1, d2, d3, d4, d5] => { results := [.lit (.bool false)], args := [d1, d2, d3, d4, d5] }
  | _ => none }
def GainRestoresWrongFalsely : Prop := gainRestoresRow.holds Try.pinned (OpenSpec.ofChange gainRestoresWrong)

/-- 'psalterylaw19.GainNear': WHATEVER THE INPUT: true; the input reads as it did. -/
def gainNearSpec : ChangeSpec := { name := "gainNear", fn := fun _ => fun
  | [d1, d2, d3, d4] => { results := [.lit (.bool true)], args := [d1, d2, d3, d4] }
  | _ => none }
def gainNearRow : OpenClaim := { program := "ytfipchhpnnjkeaa", sum := "af025465f8a4fe0ff61f044549f053b120347ad749d5ceeef8509a9ff3e89c7b", func := "psaltery/psalterylaw19.GainNear", spec := "gainNear", apart := false }
def GainNearSaid : Prop := gainNearRow.holds Try.pinned (OpenSpec.ofChange gainNearSpec)

/-- ITS FALSE NEIGHBOUR: 'it returns false'. Refute it at one input. -/
def gainNearWrong : ChangeSpec := { name := "gainNear", fn := fun _ => fun
  | [d1, d2, d3, d4] => { results := [.lit (.bool false)], args := [d1, d2, d3, d4] }
  | _ => none }
def GainNearWrongFalsely : Prop := gainNearRow.holds Try.pinned (OpenSpec.ofChange gainNearWrong)

/- THE SECOND FORM. 'bulk': how many values and letters a reading holds, each counted each time it is reached (what is shared counts as often as it is met; a slice's spare places count too). A statement '..UptoSaid' is the law's where the arguments, and the package variables that the reading takes, are together of bulk at most 1048576: NARROWER than '..Said'. Prove '..Said' where nothing that the law and all that it calls make is longer than what came in: it says more and counts as full. Else prove '..UptoSaid'. A law counts once. -/
mutual
def uptoBulk {H : Type} : DataW H → Nat
  | .lit (.string bytes) => bytes.length + 1
  | .lit _ => 1
  | .nil => 1
  | .ptr d => uptoBulk d + 1
  | .slice elems spare => uptoBulkAll elems + uptoBulkAll spare + 1
  | .agg parts => uptoBulkAll parts + 1
  | .iface _ d => uptoBulk d + 1
  | .map entries => uptoBulkEntries entries + 1
  | .held _ => 1
def uptoBulkAll {H : Type} : List (DataW H) → Nat
  | [] => 0
  | d :: r => uptoBulk d + uptoBulkAll r
def uptoBulkEntries {H : Type} : List (Lit × DataW H) → Nat
  | [] => 0
  | x :: r => uptoBulkEntry x + uptoBulkEntries r
def uptoBulkEntry {H : Type} : Lit × DataW H → Nat
  | (.string bytes, d) => bytes.length + uptoBulk d + 1
  | (_, d) => uptoBulk d + 1
 end
def uptoSmall : (H : Type) → List (DataW H) → Bool := fun _ ds => decide (uptoBulkAll ds ≤ 1048576)
def OpenSpec.upto (s : _root_.Go.ChangeSpec) : _root_.Go.OpenSpec := { _root_.Go.OpenSpec.ofChange s with cond := some uptoSmall }

/-- 'psalterylaw19.GainSteps', WHERE WHAT IT READS IS OF BULK AT MOST 1048576: true; the input reads as it did. -/
def gainStepsUptoRow : OpenClaim := { program := "ytfipchhpnnjkeaa", sum := "af025465f8a4fe0ff61f044549f053b120347ad749d5ceeef8509a9ff3e89c7b", func := "psaltery/psalterylaw19.GainSteps", spec := "gainSteps", apart := false, narrowed := true }
def GainStepsUptoSaid : Prop := gainStepsUptoRow.holds Try.pinned (OpenSpec.upto gainStepsSpec)

/-- 'psalterylaw19.GainOrder', WHERE WHAT IT READS IS OF BULK AT MOST 1048576: true; the input reads as it did. -/
def gainOrderUptoRow : OpenClaim := { program := "ytfipchhpnnjkeaa", sum := "af025465f8a4fe0ff61f044549f053b120347ad749d5ceeef8509a9ff3e89c7b", func := "psaltery/psalterylaw19.GainOrder", spec := "gainOrder", apart := false, narrowed := true }
def GainOrderUptoSaid : Prop := gainOrderUptoRow.holds Try.pinned (OpenSpec.upto gainOrderSpec)

/-- 'psalterylaw02.LogsReckon', WHERE WHAT IT READS IS OF BULK AT MOST 1048576: true; the input reads as it did. -/
def logsReckonUptoRow : OpenClaim := { program := "ytfipchhpnnjkeaa", sum := "af025465f8a4fe0ff61f044549f053b120347ad749d5ceeef8509a9ff3e89c7b", func := "psaltery/psalterylaw02.LogsReckon", spec := "logsReckon", apart := false, narrowed := true }
def LogsReckonUptoSaid : Prop := logsReckonUptoRow.holds Try.pinned (OpenSpec.upto logsReckonSpec)

/-- 'psalterylaw02.LogsPower', WHERE WHAT IT READS IS OF BULK AT MOST 1048576: true; the input reads as it did. -/
def logsPowerUptoRow : OpenClaim := { program := "ytfipchhpnnjkeaa", sum := "af025465f8a4fe0ff61f044549f053b120347ad749d5ceeef8509a9ff3e89c7b", func := "psaltery/psalterylaw02.LogsPower", spec := "logsPower", apart := false, narrowed := true }
def LogsPowerUptoSaid : Prop := logsPowerUptoRow.holds Try.pinned (OpenSpec.upto logsPowerSpec)

/-- 'psalterylaw02.LogsGrow', WHERE WHAT IT READS IS OF BULK AT MOST 1048576: true; the input reads as it did. -/
def logsGrowUptoRow : OpenClaim := { program := "ytfipchhpnnjkeaa", sum := "af025465f8a4fe0ff61f044549f053b120347ad749d5ceeef8509a9ff3e89c7b", func := "psaltery/psalterylaw02.LogsGrow", spec := "logsGrow", apart := false, narrowed := true }
def LogsGrowUptoSaid : Prop := logsGrowUptoRow.holds Try.pinned (OpenSpec.upto logsGrowSpec)

/-- 'psalterylaw02.LogsNear', WHERE WHAT IT READS IS OF BULK AT MOST 1048576: true; the input reads as it did. -/
def logsNearUptoRow : OpenClaim := { program := "ytfipchhpnnjkeaa", sum := "af025465f8a4fe0ff61f044549f053b120347ad749d5ceeef8509a9ff3e89c7b", func := "psaltery/psalterylaw02.LogsNear", spec := "logsNear", apart := false, narrowed := true }
def LogsNearUptoSaid : Prop := logsNearUptoRow.holds Try.pinned (OpenSpec.upto logsNearSpec)

/-- 'psalterylaw31.MeterDelays', WHERE WHAT IT READS IS OF BULK AT MOST 1048576: true; the input reads as it did. -/
def meterDelaysUptoRow : OpenClaim := { program := "ytfipchhpnnjkeaa", sum := "af025465f8a4fe0ff61f044549f053b120347ad749d5ceeef8509a9ff3e89c7b", func := "psaltery/psalterylaw31.MeterDelays", spec := "meterDelays", apart := false, narrowed := true }
def MeterDelaysUptoSaid : Prop := meterDelaysUptoRow.holds Try.pinned (OpenSpec.upto meterDelaysSpec)

/-- 'psalterylaw31.MeterTells', WHERE WHAT IT READS IS OF BULK AT MOST 1048576: true; the input reads as it did. -/
def meterTellsUptoRow : OpenClaim := { program := "ytfipchhpnnjkeaa", sum := "af025465f8a4fe0ff61f044549f053b120347ad749d5ceeef8509a9ff3e89c7b", func := "psaltery/psalterylaw31.MeterTells", spec := "meterTells", apart := false, narrowed := true }
def MeterTellsUptoSaid : Prop := meterTellsUptoRow.holds Try.pinned (OpenSpec.upto meterTellsSpec)

/-- 'psalterylaw31.MeterLate', WHERE WHAT IT READS IS OF BULK AT MOST 1048576: true; the input reads as it did. -/
def meterLateUptoRow : OpenClaim := { program := "ytfipchhpnnjkeaa", sum := "af025465f8a4fe0ff61f044549f053b120347ad749d5ceeef8509a9ff3e89c7b", func := "psaltery/psalterylaw31.MeterLate", spec := "meterLate", apart := false, narrowed := true }
def MeterLateUptoSaid : Prop := meterLateUptoRow.holds Try.pinned (OpenSpec.upto meterLateSpec)

/-- 'psalterylaw19.GainRestores', WHERE WHAT IT READS IS OF BULK AT MOST 1048576: true; the input reads as it did. -/
def gainRestoresUptoRow : OpenClaim := { program := "ytfipchhpnnjkeaa", sum := "af025465f8a4fe0ff61f044549f053b120347ad749d5ceeef8509a9ff3e89c7b", func := "psaltery/psalterylaw19.GainRestores", spec := "gainRestores", apart := false, narrowed := true }
def GainRestoresUptoSaid : Prop := gainRestoresUptoRow.holds Try.pinned (OpenSpec.upto gainRestoresSpec)

/-- 'psalterylaw19.GainNear', WHERE WHAT IT READS IS OF BULK AT MOST 1048576: true; the input reads as it did. -/
def gainNearUptoRow : OpenClaim := { program := "ytfipchhpnnjkeaa", sum := "af025465f8a4fe0ff61f044549f053b120347ad749d5ceeef8509a9ff3e89c7b", func := "psaltery/psalterylaw19.GainNear", spec := "gainNear", apart := false, narrowed := true }
def GainNearUptoSaid : Prop := gainNearUptoRow.holds Try.pinned (OpenSpec.upto gainNearSpec)

end Rows
end Go.Proofs.Ytfipchhpnnjkeaa
