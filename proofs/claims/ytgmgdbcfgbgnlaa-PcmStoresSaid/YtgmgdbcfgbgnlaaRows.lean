/-
  No cell of these rows narrows 'for every input' (looked for: loops, veiled, ifaces, maps, wideKeys, modest, calm, conditions, laid).
  DERIVED. THE GIVEN ROWS OF THIS SEAT. 11 by the template 'for every input the law returns true; each argument reads behind the call as it read before'; 0 by the template 'total and deterministic' (their statements: YtgmgdbcfgbgnlaaTotals.lean).
  GIVEN WITH THE SEED: the statements are not yours to turn. If you find one false, say at which input.
  Laid BY PROGRAM, IN A SANDBOX (cutbox-rows.mjs): the forced cells as the released guide's own fill.sh prints them over the translation b5f335130bccfef7… (all of the seat's roots in one cut). By AI agents, Wed Nov 11 2026. No macro, syntax, notation, axiom, sorry.
-/
import Derived.Test.YtgmgdbcfgbgnlaaChecked
import GoSem.Claim
import GoSem.ClaimJoined
import GoSem.ClaimMapViews
import Derived.JoinedTies
import Derived.KernelRfl
namespace Go.Proofs.Ytgmgdbcfgbgnlaa
/- THE CELL 'sum', in the pinned program and in every row, IS THE sha256 OF THE DUMP (.gsa) THAT YtgmgdbcfgbgnlaaProg.lean LOADS. Nothing in Lean hashes anything: it is a label: what it is worth is what the hold of that sum in a sandbox is worth. -/
noncomputable def Try.pinned : Pinned := { name := "ytgmgdbcfgbgnlaa", sum := "b5f335130bccfef735cfd79f4d9dbed20590d7a36c5bf0e689227c8b5ba8a2eb", checked := Try.checked }
namespace Rows
def none {H : Type} : Left H := { results := [], args := [] }

/-- 'psalterylaw10.PcmOrder': WHATEVER THE INPUT: true; the input reads as it did. -/
def pcmOrderSpec : ChangeSpec := { name := "pcmOrder", fn := fun _ => fun
  | [d1, d2] => { results := [.lit (.bool true)], args := [d1, d2] }
  | _ => none }
def pcmOrderRow : OpenClaim := { program := "ytgmgdbcfgbgnlaa", sum := "b5f335130bccfef735cfd79f4d9dbed20590d7a36c5bf0e689227c8b5ba8a2eb", func := "psaltery/psalterylaw10.PcmOrder", spec := "pcmOrder", apart := false }
def PcmOrderSaid : Prop := pcmOrderRow.holds Try.pinned (OpenSpec.ofChange pcmOrderSpec)

/-- ITS FALSE NEIGHBOUR: 'it returns false'. Refute it at one input. -/
def pcmOrderWrong : ChangeSpec := { name := "pcmOrder", fn := fun _ => fun
  | [d1, d2] => { results := [.lit (.bool false)], args := [d1, d2] }
  | _ => none }
def PcmOrderWrongFalsely : Prop := pcmOrderRow.holds Try.pinned (OpenSpec.ofChange pcmOrderWrong)

/-- 'psalterylaw10.PcmStores': WHATEVER THE INPUT: true; the input reads as it did. -/
def pcmStoresSpec : ChangeSpec := { name := "pcmStores", fn := fun _ => fun
  | [d1, d2] => { results := [.lit (.bool true)], args := [d1, d2] }
  | _ => none }
def pcmStoresRow : OpenClaim := { program := "ytgmgdbcfgbgnlaa", sum := "b5f335130bccfef735cfd79f4d9dbed20590d7a36c5bf0e689227c8b5ba8a2eb", func := "psaltery/psalterylaw10.PcmStores", spec := "pcmStores", apart := false }
def PcmStoresSaid : Prop := pcmStoresRow.holds Try.pinned (OpenSpec.ofChange pcmStoresSpec)

/-- ITS FALSE NEIGHBOUR: 'it returns false'. Refute it at one input. -/
def pcmStoresWrong : ChangeSpec := { name := "pcmStores", fn := fun _ => fun
  | [d1, d2] => { results := [.lit (.bool false)], args := [d1, d2] }
  | _ => none }
def PcmStoresWrongFalsely : Prop := pcmStoresRow.holds Try.pinned (OpenSpec.ofChange pcmStoresWrong)

/-- 'psalterylaw03.WaveSines': WHATEVER THE INPUT: true; the input reads as it did. -/
def waveSinesSpec : ChangeSpec := { name := "waveSines", fn := fun _ => fun
  | [d1, d2] => { results := [.lit (.bool true)], args := [d1, d2] }
  | _ => none }
def waveSinesRow : OpenClaim := { program := "ytgmgdbcfgbgnlaa", sum := "b5f335130bccfef735cfd79f4d9dbed20590d7a36c5bf0e689227c8b5ba8a2eb", func := "psaltery/psalterylaw03.WaveSines", spec := "waveSines", apart := false }
def WaveSinesSaid : Prop := waveSinesRow.holds Try.pinned (OpenSpec.ofChange waveSinesSpec)

/-- ITS FALSE NEIGHBOUR: 'it returns false'. Refute it at one input. -/
def waveSinesWrong : ChangeSpec := { name := "waveSines", fn := fun _ => fun
  | [d1, d2] => { results := [.lit (.bool false)], args := [d1, d2] }
  | _ => none }
def WaveSinesWrongFalsely : Prop := waveSinesRow.holds Try.pinned (OpenSpec.ofChange waveSinesWrong)

/-- 'psalterylaw03.WaveTurns': WHATEVER THE INPUT: true; the input reads as it did. -/
def waveTurnsSpec : ChangeSpec := { name := "waveTurns", fn := fun _ => fun
  | [d1, d2, d3] => { results := [.lit (.bool true)], args := [d1, d2, d3] }
  | _ => none }
def waveTurnsRow : OpenClaim := { program := "ytgmgdbcfgbgnlaa", sum := "b5f335130bccfef735cfd79f4d9dbed20590d7a36c5bf0e689227c8b5ba8a2eb", func := "psaltery/psalterylaw03.WaveTurns", spec := "waveTurns", apart := false }
def WaveTurnsSaid : Prop := waveTurnsRow.holds Try.pinned (OpenSpec.ofChange waveTurnsSpec)

/-- ITS FALSE NEIGHBOUR: 'it returns false'. Refute it at one input. -/
def waveTurnsWrong : ChangeSpec := { name := "waveTurns", fn := fun _ => fun
  | [d1, d2, d3] => { results := [.lit (.bool false)], args := [d1, d2, d3] }
  | _ => none }
def WaveTurnsWrongFalsely : Prop := waveTurnsRow.holds Try.pinned (OpenSpec.ofChange waveTurnsWrong)

/-- 'psalterylaw10.PcmWeaves': WHATEVER THE INPUT: true; the input reads as it did. -/
def pcmWeavesSpec : ChangeSpec := { name := "pcmWeaves", fn := fun _ => fun
  | [d] => { results := [.lit (.bool true)], args := [d] }
  | _ => none }
def pcmWeavesRow : OpenClaim := { program := "ytgmgdbcfgbgnlaa", sum := "b5f335130bccfef735cfd79f4d9dbed20590d7a36c5bf0e689227c8b5ba8a2eb", func := "psaltery/psalterylaw10.PcmWeaves", spec := "pcmWeaves", apart := false }
def PcmWeavesSaid : Prop := pcmWeavesRow.holds Try.pinned (OpenSpec.ofChange pcmWeavesSpec)

/-- ITS FALSE NEIGHBOUR: 'it returns false'. Refute it at one input. -/
def pcmWeavesWrong : ChangeSpec := { name := "pcmWeaves", fn := fun _ => fun
  | [d] => { results := [.lit (.bool false)], args := [d] }
  | _ => none }
def PcmWeavesWrongFalsely : Prop := pcmWeavesRow.holds Try.pinned (OpenSpec.ofChange pcmWeavesWrong)

/-- 'psalterylaw15.BandEdges': WHATEVER THE INPUT: true; the input reads as it did. -/
def bandEdgesSpec : ChangeSpec := { name := "bandEdges", fn := fun _ => fun
  | [d1, d2] => { results := [.lit (.bool true)], args := [d1, d2] }
  | _ => none }
def bandEdgesRow : OpenClaim := { program := "ytgmgdbcfgbgnlaa", sum := "b5f335130bccfef735cfd79f4d9dbed20590d7a36c5bf0e689227c8b5ba8a2eb", func := "psaltery/psalterylaw15.BandEdges", spec := "bandEdges", apart := false }
def BandEdgesSaid : Prop := bandEdgesRow.holds Try.pinned (OpenSpec.ofChange bandEdgesSpec)

/-- ITS FALSE NEIGHBOUR: 'it returns false'. Refute it at one input. -/
def bandEdgesWrong : ChangeSpec := { name := "bandEdges", fn := fun _ => fun
  | [d1, d2] => { results := [.lit (.bool false)], args := [d1, d2] }
  | _ => none }
def BandEdgesWrongFalsely : Prop := bandEdgesRow.holds Try.pinned (OpenSpec.ofChange bandEdgesWrong)

/-- 'psalterylaw03.WaveTables': WHATEVER THE INPUT: true; the input reads as it did. -/
def waveTablesSpec : ChangeSpec := { name := "waveTables", fn := fun _ => fun
  | [d] => { results := [.lit (.bool true)], args := [d] }
  | _ => none }
def waveTablesRow : OpenClaim := { program := "ytgmgdbcfgbgnlaa", sum := "b5f335130bccfef735cfd79f4d9dbed20590d7a36c5bf0e689227c8b5ba8a2eb", func := "psaltery/psalterylaw03.WaveTables", spec := "waveTables", apart := false }
def WaveTablesSaid : Prop := waveTablesRow.holds Try.pinned (OpenSpec.ofChange waveTablesSpec)

/-- ITS FALSE NEIGHBOUR: 'it returns false'. Refute it at one input. -/
def waveTablesWrong : ChangeSpec := { name := "waveTables", fn := fun _ => fun
  | [d] => { results := [.lit (.bool false)], args := [d] }
  | _ => none }
def WaveTablesWrongFalsely : Prop := waveTablesRow.holds Try.pinned (OpenSpec.ofChange waveTablesWrong)

/-- 'psalterylaw10.PcmParts': WHATEVER THE INPUT: true; the input reads as it did. -/
def pcmPartsSpec : ChangeSpec := { name := "pcmParts", fn := fun _ => fun
  | [d1, d2] => { results := [.lit (.bool true)], args := [d1, d2] }
  | _ => none }
def pcmPartsRow : OpenClaim := { program := "ytgmgdbcfgbgnlaa", sum := "b5f335130bccfef735cfd79f4d9dbed20590d7a36c5bf0e689227c8b5ba8a2eb", func := "psaltery/psalterylaw10.PcmParts", spec := "pcmParts", apart := false }
def PcmPartsSaid : Prop := pcmPartsRow.holds Try.pinned (OpenSpec.ofChange pcmPartsSpec)

/-- ITS FALSE NEIGHBOUR: 'it returns false'. Refute it at one input. -/
def pcmPartsWrong : ChangeSpec := { name := "pcmParts", fn := fun _ => fun
  | [d1, d2] => { results := [.lit (.bool false)], args := [d1, d2] }
  | _ => none }
def PcmPartsWrongFalsely : Prop := pcmPartsRow.holds Try.pinned (OpenSpec.ofChange pcmPartsWrong)

/-- 'psalterylaw15.BandWidths': WHATEVER THE INPUT: true; the input reads as it did. -/
def bandWidthsSpec : ChangeSpec := { name := "bandWidths", fn := fun _ => fun
  | [d1, d2] => { results := [.lit (.bool true)], args := [d1, d2] }
  | _ => none }
def bandWidthsRow : OpenClaim := { program := "ytgmgdbcfgbgnlaa", sum := "b5f335130bccfef735cfd79f4d9dbed20590d7a36c5bf0e689227c8b5ba8a2eb", func := "psaltery/psalterylaw15.BandWidths", spec := "bandWidths", apart := false }
def BandWidthsSaid : Prop := bandWidthsRow.holds Try.pinned (OpenSpec.ofChange bandWidthsSpec)

/-- ITS FALSE NEIGHBOUR: 'it returns false'. Refute it at one input. -/
def bandWidthsWrong : ChangeSpec := { name := "bandWidths", fn := fun _ => fun
  | [d1, d2] => { results := [.lit (.bool false)], args := [d1, d2] }
  | _ => none }
def BandWidthsWrongFalsely : Prop := bandWidthsRow.holds Try.pinned (OpenSpec.ofChange bandWidthsWrong)

/-- 'psalterylaw15.BandLittle': WHATEVER THE INPUT: true; the input reads as it did. -/
def bandLittleSpec : ChangeSpec := { name := "bandLittle", fn := fun _ => fun
  | [d] => { results := [.lit (.bool true)], args := [d] }
  | _ => none }
def bandLittleRow : OpenClaim := { program := "ytgmgdbcfgbgnlaa", sum := "b5f335130bccfef735cfd79f4d9dbed20590d7a36c5bf0e689227c8b5ba8a2eb", func := "psaltery/psalterylaw15.BandLittle", spec := "bandLittle", apart := false }
def BandLittleSaid : Prop := bandLittleRow.holds Try.pinned (OpenSpec.ofChange bandLittleSpec)

/-- ITS FALSE NEIGHBOUR: 'it returns false'. Refute it at one input. -/
def bandLittleWrong : ChangeSpec := { name := "bandLittle", fn := fun _ => fun
  | [d] => { results := [.lit (.bool false)], args := [d] }
  | _ => none }
def BandLittleWrongFalsely : Prop := bandLittleRow.holds Try.pinned (OpenSpec.ofChange bandLittleWrong)

/-- 'psalterylaw15.BandKeeps': WHATEVER THE INPUT: true; the input reads as it did. -/
def bandKeepsSpec : ChangeSpec := { name := "bandKeeps", fn := fun _ => fun
  | [d1, d2] => { results := [.lit (.bool true)], args := [d1, d2] }
  | _ => none }
def bandKeepsRow : OpenClaim := { program := "ytgmgdbcfgbgnlaa", sum := "b5f335130bccfef735cfd79f4d9dbed20590d7a36c5bf0e689227c8b5ba8a2eb", func := "psaltery/psalterylaw15.BandKeeps", spec := "bandKeeps", apart := false }
def BandKeepsSaid : Prop := bandKeepsRow.holds Try.pinned (OpenSpec.ofChange bandKeepsSpec)

/-- ITS FALSE NEIGHBOUR: 'it returns false'. Refute it at one input. -/
def bandKeepsWrong : ChangeSpec := { name := "bandKeeps", fn := fun _ => fun
  | [d1, d2] => { results := [.lit (.bool false)], args := [d1, d2] }
  | _ => none }
def BandKeepsWrongFalsely : Prop := bandKeepsRow.holds Try.pinned (OpenSpec.ofChange bandKeepsWrong)

/- THE SECOND FORM. 'bulk': how many values and letters a reading holds, each counted each time it is reached (what is shared counts as often as it is met; a slice's spare places count too). A statement '..UptoSaid' is the law's where the arguments, and the package variables that the reading takes, are together of bulk at most 1048576: NARROWER than '..Said'. Prove '..Said' where nothing that the law and all that it calls make is longer than what came in: it says more and counts as full. Else prove '..UptoSaid'. A law counts once. -/
mutual
def uptoBulk {H : Type} : DataW H → Nat
  | .lit (.string bytes) => bytes.length + 1
  | .lit _ => 1
  | .nil => 1
  | .ptr d => uptoBulk d + 1
  | .slice elems spare => uptoBulkAll elems + uptoBulkAll spare + 1
  | .agg parts => uptoBulkAll parts + 1
  | .iface _ d => uptoBulk d + 1
  | .map entries => uptoBulkEntries entries + 1
  | .held _ => 1
def uptoBulkAll {H : Type} : List (DataW H) → Nat
  | [] => 0
  | d :: r => uptoBulk d + uptoBulkAll r
def uptoBulkEntries {H : Type} : List (Lit × DataW H) → Nat
  | [] => 0
  | x :: r => uptoBulkEntry x + uptoBulkEntries r
def uptoBulkEntry {H : Type} : Lit × DataW H → Nat
  | (.string bytes, d) => bytes.length + uptoBulk d + 1
  | (_, d) => uptoBulk d + 1
 end
def uptoSmall : (H : Type) → List (DataW H) → Bool := fun _ ds => decide (uptoBulkAll ds ≤ 1048576)
def OpenSpec.upto (s : _root_.Go.ChangeSpec) : _root_.Go.OpenSpec := { _root_.Go.OpenSpec.ofChange s with cond := some uptoSmall }

/-- 'psalterylaw10.PcmOrder', WHERE WHAT IT READS IS OF BULK AT MOST 1048576: true; the input reads as it did. -/
def pcmOrderUptoRow : OpenClaim := { program := "ytgmgdbcfgbgnlaa", sum := "b5f335130bccfef735cfd79f4d9dbed20590d7a36c5bf0e689227c8b5ba8a2eb", func := "psaltery/psalterylaw10.PcmOrder", spec := "pcmOrder", apart := false, narrowed := true }
def PcmOrderUptoSaid : Prop := pcmOrderUptoRow.holds Try.pinned (OpenSpec.upto pcmOrderSpec)

/-- 'psalterylaw10.PcmStores', WHERE WHAT IT READS IS OF BULK AT MOST 1048576: true; the input reads as it did. -/
def pcmStoresUptoRow : OpenClaim := { program := "ytgmgdbcfgbgnlaa", sum := "b5f335130bccfef735cfd79f4d9dbed20590d7a36c5bf0e689227c8b5ba8a2eb", func := "psaltery/psalterylaw10.PcmStores", spec := "pcmStores", apart := false, narrowed := true }
def PcmStoresUptoSaid : Prop := pcmStoresUptoRow.holds Try.pinned (OpenSpec.upto pcmStoresSpec)

/-- 'psalterylaw03.WaveSines', WHERE WHAT IT READS IS OF BULK AT MOST 1048576: true; the input reads as it did. -/
def waveSinesUptoRow : OpenClaim := { program := "ytgmgdbcfgbgnlaa", sum := "b5f335130bccfef735cfd79f4d9dbed20590d7a36c5bf0e689227c8b5ba8a2eb", func := "psaltery/psalterylaw03.WaveSines", spec := "waveSines", apart := false, narrowed := true }
def WaveSinesUptoSaid : Prop := waveSinesUptoRow.holds Try.pinned (OpenSpec.upto waveSinesSpec)

/-- 'psalterylaw03.WaveTurns', WHERE WHAT IT READS IS OF BULK AT MOST 1048576: true; the input reads as it did. -/
def waveTurnsUptoRow : OpenClaim := { program := "ytgmgdbcfgbgnlaa", sum := "b5f335130bccfef735cfd79f4d9dbed20590d7a36c5bf0e689227c8b5ba8a2eb", func := "psaltery/psalterylaw03.WaveTurns", spec := "waveTurns", apart := false, narrowed := true }
def WaveTurnsUptoSaid : Prop := waveTurnsUptoRow.holds Try.pinned (OpenSpec.upto waveTurnsSpec)

/-- 'psalterylaw10.PcmWeaves', WHERE WHAT IT READS IS OF BULK AT MOST 1048576: true; the input reads as it did. -/
def pcmWeavesUptoRow : OpenClaim := { program := "ytgmgdbcfgbgnlaa", sum := "b5f335130bccfef735cfd79f4d9dbed20590d7a36c5bf0e689227c8b5ba8a2eb", func := "psaltery/psalterylaw10.PcmWeaves", spec := "pcmWeaves", apart := false, narrowed := true }
def PcmWeavesUptoSaid : Prop := pcmWeavesUptoRow.holds Try.pinned (OpenSpec.upto pcmWeavesSpec)

/-- 'psalterylaw15.BandEdges', WHERE WHAT IT READS IS OF BULK AT MOST 1048576: true; the input reads as it did. -/
def bandEdgesUptoRow : OpenClaim := { program := "ytgmgdbcfgbgnlaa", sum := "b5f335130bccfef735cfd79f4d9dbed20590d7a36c5bf0e689227c8b5ba8a2eb", func := "psaltery/psalterylaw15.BandEdges", spec := "bandEdges", apart := false, narrowed := true }
def BandEdgesUptoSaid : Prop := bandEdgesUptoRow.holds Try.pinned (OpenSpec.upto bandEdgesSpec)

/-- 'psalterylaw03.WaveTables', WHERE WHAT IT READS IS OF BULK AT MOST 1048576: true; the input reads as it did. -/
def waveTablesUptoRow : OpenClaim := { program := "ytgmgdbcfgbgnlaa", sum := "b5f335130bccfef735cfd79f4d9dbed20590d7a36c5bf0e689227c8b5ba8a2eb", func := "psaltery/psalterylaw03.WaveTables", spec := "waveTables", apart := false, narrowed := true }
def WaveTablesUptoSaid : Prop := waveTablesUptoRow.holds Try.pinned (OpenSpec.upto waveTablesSpec)

/-- 'psalterylaw10.PcmParts', WHERE WHAT IT READS IS OF BULK AT MOST 1048576: true; the input reads as it did. -/
def pcmPartsUptoRow : OpenClaim := { program := "ytgmgdbcfgbgnlaa", sum := "b5f335130bccfef735cfd79f4d9dbed20590d7a36c5bf0e689227c8b5ba8a2eb", func := "psaltery/psalterylaw10.PcmParts", spec := "pcmParts", apart := false, narrowed := true }
def PcmPartsUptoSaid : Prop := pcmPartsUptoRow.holds Try.pinned (OpenSpec.upto pcmPartsSpec)

/-- 'psalterylaw15.BandWidths', WHERE WHAT IT READS IS OF BULK AT MOST 1048576: true; the input reads as it did. -/
def bandWidthsUptoRow : OpenClaim := { program := "ytgmgdbcfgbgnlaa", sum := "b5f335130bccfef735cfd79f4d9dbed20590d7a36c5bf0e689227c8b5ba8a2eb", func := "psaltery/psalterylaw15.BandWidths", spec := "bandWidths", apart := false, narrowed := true }
def BandWidthsUptoSaid : Prop := bandWidthsUptoRow.holds Try.pinned (OpenSpec.upto bandWidthsSpec)

/-- 'psalterylaw15.BandLittle', WHERE WHAT IT READS IS OF BULK AT MOST 1048576: true; the input reads as it did. -/
def bandLittleUptoRow : OpenClaim := { program := "ytgmgdbcfgbgnlaa", sum := "b5f335130bccfef735cfd79f4d9dbed20590d7a36c5bf0e689227c8b5ba8a2eb", func := "psaltery/psalterylaw15.BandLittle", spec := "bandLittle", apart := false, narrowed := true }
def BandLittleUptoSaid : Prop := bandLittleUptoRow.holds Try.pinned (OpenSpec.upto bandLittleSpec)

/-- 'psalterylaw15.BandKeeps', WHERE WHAT IT READS IS OF BULK AT MOST 1048576: true; the input reads as it did. -/
def bandKeepsUptoRow : OpenClaim := { program := "ytgmgdbcfgbgnlaa", sum := "b5f335130bccfef735cfd79f4d9dbed20590d7a36c5bf0e689227c8b5ba8a2eb", func := "psaltery/psalterylaw15.BandKeeps", spec := "bandKeeps", apart := false, narrowed := true }
def BandKeepsUptoSaid : Prop := bandKeepsUptoRow.holds Try.pinned (OpenSpec.upto bandKeepsSpec)

end Rows
end Go.Proofs.Ytgmgdbcfgbgnlaa
