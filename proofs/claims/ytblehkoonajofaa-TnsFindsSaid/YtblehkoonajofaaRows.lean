/-
  No cell of these rows narrows 'for every input' (looked for: loops, veiled, ifaces, maps, wideKeys, modest, calm, conditions, laid).
  DERIVED. THE GIVEN ROWS OF THIS SEAT. 10 by the template 'for every input the law returns true; each argument reads behind the call as it read before'; 0 by the template 'total and deterministic' (their statements: YtblehkoonajofaaTotals.lean).
  GIVEN WITH THE SEED: the statements are not yours to turn. If you find one false, say at which input.
  Laid BY PROGRAM, IN A SANDBOX (cutbox-rows.mjs): the forced cells as the released guide's own fill.sh prints them over the translation fb44ea2b1eb56d52… (all of the seat's roots in one cut). By AI agents, Wed Nov 11 2026. No macro, syntax, notation, axiom, sorry.
-/
import Derived.Test.YtblehkoonajofaaChecked
import GoSem.Claim
import GoSem.ClaimJoined
import GoSem.ClaimMapViews
import Derived.JoinedTies
import Derived.KernelRfl
namespace Go.Proofs.Ytblehkoonajofaa
/- THE CELL 'sum', in the pinned program and in every row, IS THE sha256 OF THE DUMP (.gsa) THAT YtblehkoonajofaaProg.lean LOADS. Nothing in Lean hashes anything: it is a label: what it is worth is what the hold of that sum in a sandbox is worth. -/
noncomputable def Try.pinned : Pinned := { name := "ytblehkoonajofaa", sum := "fb44ea2b1eb56d52fb40c80fc7d488a63df2409cc04365e7cd3d69f1644e4853", checked := Try.checked }
namespace Rows
def none {H : Type} : Left H := { results := [], args := [] }

/-- 'psalterylaw18.PitchHunts': WHATEVER THE INPUT: true; the input reads as it did. -/
def pitchHuntsSpec : ChangeSpec := { name := "pitchHunts", fn := fun _ => fun
  | [d] => { results := [.lit (.bool true)], args := [d] }
  | _ => none }
def pitchHuntsRow : OpenClaim := { program := "ytblehkoonajofaa", sum := "fb44ea2b1eb56d52fb40c80fc7d488a63df2409cc04365e7cd3d69f1644e4853", func := "psaltery/psalterylaw18.PitchHunts", spec := "pitchHunts", unfollowed := true, recurses := true, apart := false }
def PitchHuntsSaid : Prop := pitchHuntsRow.holds Try.pinned (OpenSpec.ofChange pitchHuntsSpec)

/-- ITS FALSE NEIGHBOUR: 'it returns false'. Refute it at one input. -/
def pitchHuntsWrong : ChangeSpec := { name := "pitchHunts", fn := fun _ => fun
  | [d] => { results := [.lit (.bool false)], args := [d] }
  | _ => none }
def PitchHuntsWrongFalsely : Prop := pitchHuntsRow.holds Try.pinned (OpenSpec.ofChange pitchHuntsWrong)

/-- 'psalterylaw18.PitchCombs': WHATEVER THE INPUT: true; the input reads as it did. -/
def pitchCombsSpec : ChangeSpec := { name := "pitchCombs", fn := fun _ => fun
  | [d1, d2] => { results := [.lit (.bool true)], args := [d1, d2] }
  | _ => none }
def pitchCombsRow : OpenClaim := { program := "ytblehkoonajofaa", sum := "fb44ea2b1eb56d52fb40c80fc7d488a63df2409cc04365e7cd3d69f1644e4853", func := "psaltery/psalterylaw18.PitchCombs", spec := "pitchCombs", unfollowed := true, recurses := true, apart := false }
def PitchCombsSaid : Prop := pitchCombsRow.holds Try.pinned (OpenSpec.ofChange pitchCombsSpec)

/-- ITS FALSE NEIGHBOUR: 'it returns false'. Refute it at one input. -/
def pitchCombsWrong : ChangeSpec := { name := "pitchCombs", fn := fun _ => fun
  | [d1, d2] => { results := [.lit (.bool false)], args := [d1, d2] }
  | _ => none }
def PitchCombsWrongFalsely : Prop := pitchCombsRow.holds Try.pinned (OpenSpec.ofChange pitchCombsWrong)

/-- 'psalterylaw18.PitchAgain': WHATEVER THE INPUT: true; the input reads as it did. -/
def pitchAgainSpec : ChangeSpec := { name := "pitchAgain", fn := fun _ => fun
  | [d1, d2] => { results := [.lit (.bool true)], args := [d1, d2] }
  | _ => none }
def pitchAgainRow : OpenClaim := { program := "ytblehkoonajofaa", sum := "fb44ea2b1eb56d52fb40c80fc7d488a63df2409cc04365e7cd3d69f1644e4853", func := "psaltery/psalterylaw18.PitchAgain", spec := "pitchAgain", unfollowed := true, recurses := true, apart := false }
def PitchAgainSaid : Prop := pitchAgainRow.holds Try.pinned (OpenSpec.ofChange pitchAgainSpec)

/-- ITS FALSE NEIGHBOUR: 'it returns false'. Refute it at one input. -/
def pitchAgainWrong : ChangeSpec := { name := "pitchAgain", fn := fun _ => fun
  | [d1, d2] => { results := [.lit (.bool false)], args := [d1, d2] }
  | _ => none }
def PitchAgainWrongFalsely : Prop := pitchAgainRow.holds Try.pinned (OpenSpec.ofChange pitchAgainWrong)

/-- 'psalterylaw16.ShapeFinds': WHATEVER THE INPUT: true; the input reads as it did. -/
def shapeFindsSpec : ChangeSpec := { name := "shapeFinds", fn := fun _ => fun
  | [d] => { results := [.lit (.bool true)], args := [d] }
  | _ => none }
def shapeFindsRow : OpenClaim := { program := "ytblehkoonajofaa", sum := "fb44ea2b1eb56d52fb40c80fc7d488a63df2409cc04365e7cd3d69f1644e4853", func := "psaltery/psalterylaw16.ShapeFinds", spec := "shapeFinds", apart := false }
def ShapeFindsSaid : Prop := shapeFindsRow.holds Try.pinned (OpenSpec.ofChange shapeFindsSpec)

/-- ITS FALSE NEIGHBOUR: 'it returns false'. Refute it at one input. -/
def shapeFindsWrong : ChangeSpec := { name := "shapeFinds", fn := fun _ => fun
  | [d] => { results := [.lit (.bool false)], args := [d] }
  | _ => none }
def ShapeFindsWrongFalsely : Prop := shapeFindsRow.holds Try.pinned (OpenSpec.ofChange shapeFindsWrong)

/-- 'psalterylaw18.PitchNil': WHATEVER THE INPUT: true; the input reads as it did. -/
def pitchNilSpec : ChangeSpec := { name := "pitchNil", fn := fun _ => fun
  | [d1, d2] => { results := [.lit (.bool true)], args := [d1, d2] }
  | _ => none }
def pitchNilRow : OpenClaim := { program := "ytblehkoonajofaa", sum := "fb44ea2b1eb56d52fb40c80fc7d488a63df2409cc04365e7cd3d69f1644e4853", func := "psaltery/psalterylaw18.PitchNil", spec := "pitchNil", unfollowed := true, recurses := true, apart := false }
def PitchNilSaid : Prop := pitchNilRow.holds Try.pinned (OpenSpec.ofChange pitchNilSpec)

/-- ITS FALSE NEIGHBOUR: 'it returns false'. Refute it at one input. -/
def pitchNilWrong : ChangeSpec := { name := "pitchNil", fn := fun _ => fun
  | [d1, d2] => { results := [.lit (.bool false)], args := [d1, d2] }
  | _ => none }
def PitchNilWrongFalsely : Prop := pitchNilRow.holds Try.pinned (OpenSpec.ofChange pitchNilWrong)

/-- 'psalterylaw17.TnsFinds': WHATEVER THE INPUT: true; the input reads as it did. -/
def tnsFindsSpec : ChangeSpec := { name := "tnsFinds", fn := fun _ => fun
  | [d] => { results := [.lit (.bool true)], args := [d] }
  | _ => none }
def tnsFindsRow : OpenClaim := { program := "ytblehkoonajofaa", sum := "fb44ea2b1eb56d52fb40c80fc7d488a63df2409cc04365e7cd3d69f1644e4853", func := "psaltery/psalterylaw17.TnsFinds", spec := "tnsFinds", unfollowed := true, recurses := true, apart := false }
def TnsFindsSaid : Prop := tnsFindsRow.holds Try.pinned (OpenSpec.ofChange tnsFindsSpec)

/-- ITS FALSE NEIGHBOUR: 'it returns false'. Refute it at one input. -/
def tnsFindsWrong : ChangeSpec := { name := "tnsFinds", fn := fun _ => fun
  | [d] => { results := [.lit (.bool false)], args := [d] }
  | _ => none }
def TnsFindsWrongFalsely : Prop := tnsFindsRow.holds Try.pinned (OpenSpec.ofChange tnsFindsWrong)

/-- 'psalterylaw17.TnsBack': WHATEVER THE INPUT: true; the input reads as it did. -/
def tnsBackSpec : ChangeSpec := { name := "tnsBack", fn := fun _ => fun
  | [d1, d2] => { results := [.lit (.bool true)], args := [d1, d2] }
  | _ => none }
def tnsBackRow : OpenClaim := { program := "ytblehkoonajofaa", sum := "fb44ea2b1eb56d52fb40c80fc7d488a63df2409cc04365e7cd3d69f1644e4853", func := "psaltery/psalterylaw17.TnsBack", spec := "tnsBack", unfollowed := true, recurses := true, apart := false }
def TnsBackSaid : Prop := tnsBackRow.holds Try.pinned (OpenSpec.ofChange tnsBackSpec)

/-- ITS FALSE NEIGHBOUR: 'it returns false'. Refute it at one input. -/
def tnsBackWrong : ChangeSpec := { name := "tnsBack", fn := fun _ => fun
  | [d1, d2] => { results := [.lit (.bool false)], args := [d1, d2] }
  | _ => none }
def TnsBackWrongFalsely : Prop := tnsBackRow.holds Try.pinned (OpenSpec.ofChange tnsBackWrong)

/-- 'psalterylaw16.ShapeSays': WHATEVER THE INPUT: true; the input reads as it did. -/
def shapeSaysSpec : ChangeSpec := { name := "shapeSays", fn := fun _ => fun
  | [d1, d2] => { results := [.lit (.bool true)], args := [d1, d2] }
  | _ => none }
def shapeSaysRow : OpenClaim := { program := "ytblehkoonajofaa", sum := "fb44ea2b1eb56d52fb40c80fc7d488a63df2409cc04365e7cd3d69f1644e4853", func := "psaltery/psalterylaw16.ShapeSays", spec := "shapeSays", apart := false }
def ShapeSaysSaid : Prop := shapeSaysRow.holds Try.pinned (OpenSpec.ofChange shapeSaysSpec)

/-- ITS FALSE NEIGHBOUR: 'it returns false'. Refute it at one input. -/
def shapeSaysWrong : ChangeSpec := { name := "shapeSays", fn := fun _ => fun
  | [d1, d2] => { results := [.lit (.bool false)], args := [d1, d2] }
  | _ => none }
def ShapeSaysWrongFalsely : Prop := shapeSaysRow.holds Try.pinned (OpenSpec.ofChange shapeSaysWrong)

/-- 'psalterylaw16.ShapeTurns': WHATEVER THE INPUT: true; the input reads as it did. -/
def shapeTurnsSpec : ChangeSpec := { name := "shapeTurns", fn := fun _ => fun
  | [d1, d2] => { results := [.lit (.bool true)], args := [d1, d2] }
  | _ => none }
def shapeTurnsRow : OpenClaim := { program := "ytblehkoonajofaa", sum := "fb44ea2b1eb56d52fb40c80fc7d488a63df2409cc04365e7cd3d69f1644e4853", func := "psaltery/psalterylaw16.ShapeTurns", spec := "shapeTurns", apart := false }
def ShapeTurnsSaid : Prop := shapeTurnsRow.holds Try.pinned (OpenSpec.ofChange shapeTurnsSpec)

/-- ITS FALSE NEIGHBOUR: 'it returns false'. Refute it at one input. -/
def shapeTurnsWrong : ChangeSpec := { name := "shapeTurns", fn := fun _ => fun
  | [d1, d2] => { results := [.lit (.bool false)], args := [d1, d2] }
  | _ => none }
def ShapeTurnsWrongFalsely : Prop := shapeTurnsRow.holds Try.pinned (OpenSpec.ofChange shapeTurnsWrong)

/-- 'psalterylaw17.TnsRuns': WHATEVER THE INPUT: true; the input reads as it did. -/
def tnsRunsSpec : ChangeSpec := { name := "tnsRuns", fn := fun _ => fun
  | [d1, d2] => { results := [.lit (.bool true)], args := [d1, d2] }
  | _ => none }
def tnsRunsRow : OpenClaim := { program := "ytblehkoonajofaa", sum := "fb44ea2b1eb56d52fb40c80fc7d488a63df2409cc04365e7cd3d69f1644e4853", func := "psaltery/psalterylaw17.TnsRuns", spec := "tnsRuns", unfollowed := true, recurses := true, apart := false }
def TnsRunsSaid : Prop := tnsRunsRow.holds Try.pinned (OpenSpec.ofChange tnsRunsSpec)

/-- ITS FALSE NEIGHBOUR: 'it returns false'. Refute it at one input. -/
def tnsRunsWrong : ChangeSpec := { name := "tnsRuns", fn := fun _ => fun
  | [d1, d2] => { results := [.lit (.bool false)], args := [d1, d2] }
  | _ => none }
def TnsRunsWrongFalsely : Prop := tnsRunsRow.holds Try.pinned (OpenSpec.ofChange tnsRunsWrong)

/- THE SECOND FORM. 'bulk': how many values and letters a reading holds, each counted each time it is reached (what is shared counts as often as it is met; a slice's spare places count too). A statement '..UptoSaid' is the law's where the arguments, and the package variables that the reading takes, are together of bulk at most 1048576: NARROWER than '..Said'. Prove '..Said' where nothing that the law and all that it calls make is longer than what came in: it says more and counts as full. Else prove '..UptoSaid'. A law counts once. -/
mutual
def uptoBulk {H : Type} : DataW H → Nat
  | .lit (.string bytes) => bytes.length + 1
  | .lit _ => 1
  | .nil => 1
  | .ptr d => uptoBulk d + 1
  | .slice elems spare => uptoBulkAll elems + uptoBulkAll spare + 1
  | .agg parts => uptoBulkAll parts + 1
  | .iface _ d => uptoBulk d + 1
  | .map entries => uptoBulkEntries entries + 1
  | .held _ => 1
def uptoBulkAll {H : Type} : List (DataW H) → Nat
  | [] => 0
  | d :: r => uptoBulk d + uptoBulkAll r
def uptoBulkEntries {H : Type} : List (Lit × DataW H) → Nat
  | [] => 0
  | x :: r => uptoBulkEntry x + uptoBulkEntries r
def uptoBulkEntry {H : Type} : Lit × DataW H → Nat
  | (.string bytes, d) => bytes.length + uptoBulk d + 1
  | (_, d) => uptoBulk d + 1
 end
def uptoSmall : (H : Type) → List (DataW H) → Bool := fun _ ds => decide (uptoBulkAll ds ≤ 1048576)
def OpenSpec.upto (s : _root_.Go.ChangeSpec) : _root_.Go.OpenSpec := { _root_.Go.OpenSpec.ofChange s with cond := some uptoSmall }

/-- 'psalterylaw18.PitchHunts', WHERE WHAT IT READS IS OF BULK AT MOST 1048576: true; the input reads as it did. -/
def pitchHuntsUptoRow : OpenClaim := { program := "ytblehkoonajofaa", sum := "fb44ea2b1eb56d52fb40c80fc7d488a63df2409cc04365e7cd3d69f1644e4853", func := "psaltery/psalterylaw18.PitchHunts", spec := "pitchHunts", unfollowed := true, recurses := true, apart := false, narrowed := true }
def PitchHuntsUptoSaid : Prop := pitchHuntsUptoRow.holds Try.pinned (OpenSpec.upto pitchHuntsSpec)

/-- 'psalterylaw18.PitchCombs', WHERE WHAT IT READS IS OF BULK AT MOST 1048576: true; the input reads as it did. -/
def pitchCombsUptoRow : OpenClaim := { program := "ytblehkoonajofaa", sum := "fb44ea2b1eb56d52fb40c80fc7d488a63df2409cc04365e7cd3d69f1644e4853", func := "psaltery/psalterylaw18.PitchCombs", spec := "pitchCombs", unfollowed := true, recurses := true, apart := false, narrowed := true }
def PitchCombsUptoSaid : Prop := pitchCombsUptoRow.holds Try.pinned (OpenSpec.upto pitchCombsSpec)

/-- 'psalterylaw18.PitchAgain', WHERE WHAT IT READS IS OF BULK AT MOST 1048576: true; the input reads as it did. -/
def pitchAgainUptoRow : OpenClaim := { program := "ytblehkoonajofaa", sum := "fb44ea2b1eb56d52fb40c80fc7d488a63df2409cc04365e7cd3d69f1644e4853", func := "psaltery/psalterylaw18.PitchAgain", spec := "pitchAgain", unfollowed := true, recurses := true, apart := false, narrowed := true }
def PitchAgainUptoSaid : Prop := pitchAgainUptoRow.holds Try.pinned (OpenSpec.upto pitchAgainSpec)

/-- 'psalterylaw16.ShapeFinds', WHERE WHAT IT READS IS OF BULK AT MOST 1048576: true; the input reads as it did. -/
def shapeFindsUptoRow : OpenClaim := { program := "ytblehkoonajofaa", sum := "fb44ea2b1eb56d52fb40c80fc7d488a63df2409cc04365e7cd3d69f1644e4853", func := "psaltery/psalterylaw16.ShapeFinds", spec := "shapeFinds", apart := false, narrowed := true }
def ShapeFindsUptoSaid : Prop := shapeFindsUptoRow.holds Try.pinned (OpenSpec.upto shapeFindsSpec)

/-- 'psalterylaw18.PitchNil', WHERE WHAT IT READS IS OF BULK AT MOST 1048576: true; the input reads as it did. -/
def pitchNilUptoRow : OpenClaim := { program := "ytblehkoonajofaa", sum := "fb44ea2b1eb56d52fb40c80fc7d488a63df2409cc04365e7cd3d69f1644e4853", func := "psaltery/psalterylaw18.PitchNil", spec := "pitchNil", unfollowed := true, recurses := true, apart := false, narrowed := true }
def PitchNilUptoSaid : Prop := pitchNilUptoRow.holds Try.pinned (OpenSpec.upto pitchNilSpec)

/-- 'psalterylaw17.TnsFinds', WHERE WHAT IT READS IS OF BULK AT MOST 1048576: true; the input reads as it did. -/
def tnsFindsUptoRow : OpenClaim := { program := "ytblehkoonajofaa", sum := "fb44ea2b1eb56d52fb40c80fc7d488a63df2409cc04365e7cd3d69f1644e4853", func := "psaltery/psalterylaw17.TnsFinds", spec := "tnsFinds", unfollowed := true, recurses := true, apart := false, narrowed := true }
def TnsFindsUptoSaid : Prop := tnsFindsUptoRow.holds Try.pinned (OpenSpec.upto tnsFindsSpec)

/-- 'psalterylaw17.TnsBack', WHERE WHAT IT READS IS OF BULK AT MOST 1048576: true; the input reads as it did. -/
def tnsBackUptoRow : OpenClaim := { program := "ytblehkoonajofaa", sum := "fb44ea2b1eb56d52fb40c80fc7d488a63df2409cc04365e7cd3d69f1644e4853", func := "psaltery/psalterylaw17.TnsBack", spec := "tnsBack", unfollowed := true, recurses := true, apart := false, narrowed := true }
def TnsBackUptoSaid : Prop := tnsBackUptoRow.holds Try.pinned (OpenSpec.upto tnsBackSpec)

/-- 'psalterylaw16.ShapeSays', WHERE WHAT IT READS IS OF BULK AT MOST 1048576: true; the input reads as it did. -/
def shapeSaysUptoRow : OpenClaim := { program := "ytblehkoonajofaa", sum := "fb44ea2b1eb56d52fb40c80fc7d488a63df2409cc04365e7cd3d69f1644e4853", func := "psaltery/psalterylaw16.ShapeSays", spec := "shapeSays", apart := false, narrowed := true }
def ShapeSaysUptoSaid : Prop := shapeSaysUptoRow.holds Try.pinned (OpenSpec.upto shapeSaysSpec)

/-- 'psalterylaw16.ShapeTurns', WHERE WHAT IT READS IS OF BULK AT MOST 1048576: true; the input reads as it did. -/
def shapeTurnsUptoRow : OpenClaim := { program := "ytblehkoonajofaa", sum := "fb44ea2b1eb56d52fb40c80fc7d488a63df2409cc04365e7cd3d69f1644e4853", func := "psaltery/psalterylaw16.ShapeTurns", spec := "shapeTurns", apart := false, narrowed := true }
def ShapeTurnsUptoSaid : Prop := shapeTurnsUptoRow.holds Try.pinned (OpenSpec.upto shapeTurnsSpec)

/-- 'psalterylaw17.TnsRuns', WHERE WHAT IT READS IS OF BULK AT MOST 1048576: true; the input reads as it did. -/
def tnsRunsUptoRow : OpenClaim := { program := "ytblehkoonajofaa", sum := "fb44ea2b1eb56d52fb40c80fc7d488a63df2409cc04365e7cd3d69f1644e4853", func := "psaltery/psalterylaw17.TnsRuns", spec := "tnsRuns", unfollowed := true, recurses := true, apart := false, narrowed := true }
def TnsRunsUptoSaid : Prop := tnsRunsUptoRow.holds Try.pinned (OpenSpec.upto tnsRunsSpec)

end Rows
end Go.Proofs.Ytblehkoonajofaa
