/-
  No cell of these rows narrows 'for every input' (looked for: loops, veiled, ifaces, maps, wideKeys, modest, calm, conditions, laid).
  DERIVED. THE GIVEN ROWS OF THIS SEAT. 12 by the template 'for every input the law returns true; each argument reads behind the call as it read before'; 0 by the template 'total and deterministic' (their statements: YtnaeondfkkiimaaTotals.lean).
  GIVEN WITH THE SEED: the statements are not yours to turn. If you find one false, say at which input.
  Laid BY PROGRAM, IN A SANDBOX (cutbox-rows.mjs): the forced cells as the released guide's own fill.sh prints them over the translation d31e80d25ced7f6e… (all of the seat's roots in one cut). By AI agents, Wed Nov 11 2026. No macro, syntax, notation, axiom, sorry.
-/
import Derived.Test.YtnaeondfkkiimaaChecked
import GoSem.Claim
import GoSem.ClaimJoined
import GoSem.ClaimMapViews
import Derived.JoinedTies
import Derived.KernelRfl
namespace Go.Proofs.Ytnaeondfkkiimaa
/- THE CELL 'sum', in the pinned program and in every row, IS THE sha256 OF THE DUMP (.gsa) THAT YtnaeondfkkiimaaProg.lean LOADS. Nothing in Lean hashes anything: it is a label: what it is worth is what the hold of that sum in a sandbox is worth. -/
noncomputable def Try.pinned : Pinned := { name := "ytnaeondfkkiimaa", sum := "d31e80d25ced7f6e1f2001050b09183a80fc97e832c157b861760dd780ae00e8", checked := Try.checked }
namespace Rows
def none {H : Type} : Left H := { results := [], args := [] }

/-- 'psalterylaw33.MixerResamples': WHATEVER THE INPUT: true; the input reads as it did. -/
def mixerResamplesSpec : ChangeSpec := { name := "mixerResamples", fn := fun _ => fun
  | [d1, d2, d3] => { results := [.lit (.bool true)], args := [d1, d2, d3] }
  | _ => none }
def mixerResamplesRow : OpenClaim := { program := "ytnaeondfkkiimaa", sum := "d31e80d25ced7f6e1f2001050b09183a80fc97e832c157b861760dd780ae00e8", func := "psaltery/psalterylaw33.MixerResamples", spec := "mixerResamples", unfollowed := true, recurses := true, apart := false }
def MixerResamplesSaid : Prop := mixerResamplesRow.holds Try.pinned (OpenSpec.ofChange mixerResamplesSpec)

/-- ITS FALSE NEIGHBOUR: 'it returns false'. Refute it at one input. -/
def mixerResamplesWrong : ChangeSpec := { name := "mixerResamples", fn := fun _ => fun
  | [d1, d2, d3] => { results := [.lit (.bool false)], args := [d1, d2, d3] }
  | _ => none }
def MixerResamplesWrongFalsely : Prop := mixerResamplesRow.holds Try.pinned (OpenSpec.ofChange mixerResamplesWrong)

/-- 'psalterylaw01.FixNear': WHATEVER THE INPUT: true; the input reads as it did. -/
def fixNearSpec : ChangeSpec := { name := "fixNear", fn := fun _ => fun
  | [d1, d2, d3, d4] => { results := [.lit (.bool true)], args := [d1, d2, d3, d4] }
  | _ => none }
def fixNearRow : OpenClaim := { program := "ytnaeondfkkiimaa", sum := "d31e80d25ced7f6e1f2001050b09183a80fc97e832c157b861760dd780ae00e8", func := "psaltery/psalterylaw01.FixNear", spec := "fixNear", apart := false }
def FixNearSaid : Prop := fixNearRow.holds Try.pinned (OpenSpec.ofChange fixNearSpec)

/-- ITS FALSE NEIGHBOUR: 'it returns false'. Refute it at one input. -/
def fixNearWrong : ChangeSpec := { name := "fixNear", fn := fun _ => fun
  | [d1, d2, d3, d4] => { results := [.lit (.bool false)], args := [d1, d2, d3, d4] }
  | _ => none }
def FixNearWrongFalsely : Prop := fixNearRow.holds Try.pinned (OpenSpec.ofChange fixNearWrong)

/-- 'psalterylaw01.FixOrder': WHATEVER THE INPUT: true; the input reads as it did. -/
def fixOrderSpec : ChangeSpec := { name := "fixOrder", fn := fun _ => fun
  | [d1, d2, d3, d4, d5] => { results := [.lit (.bool true)], args := [d1, d2, d3, d4, d5] }
  | _ => none }
def fixOrderRow : OpenClaim := { program := "ytnaeondfkkiimaa", sum := "d31e80d25ced7f6e1f2001050b09183a80fc97e832c157b861760dd780ae00e8", func := "psaltery/psalterylaw01.FixOrder", spec := "fixOrder", apart := false }
def FixOrderSaid : Prop := fixOrderRow.holds Try.pinned (OpenSpec.ofChange fixOrderSpec)

/-- ITS FALSE NEIGHBOUR: 'it returns false'. Refute it at one input. -/
def fixOrderWrong : ChangeSpec := { name := "fixOrder", fn := fun _ => fun
  | [d1, d2, d3, d4, d5] => { results := [.lit (.bool false)], args := [d1, d2, d3, d4, d5] }
  | _ => none }
def FixOrderWrongFalsely : Prop := fixOrderRow.holds Try.pinned (OpenSpec.ofChange fixOrderWrong)

/-- 'psalterylaw01.FixReckons': WHATEVER THE INPUT: true; the input reads as it did. -/
def fixReckonsSpec : ChangeSpec := { name := "fixReckons", fn := fun _ => fun
  | [d1, d2, d3] => { results := [.lit (.bool true)], args := [d1, d2, d3] }
  | _ => none }
def fixReckonsRow : OpenClaim := { program := "ytnaeondfkkiimaa", sum := "d31e80d25ced7f6e1f2001050b09183a80fc97e832c157b861760dd780ae00e8", func := "psaltery/psalterylaw01.FixReckons", spec := "fixReckons", apart := false }
def FixReckonsSaid : Prop := fixReckonsRow.holds Try.pinned (OpenSpec.ofChange fixReckonsSpec)

/-- ITS FALSE NEIGHBOUR: 'it returns false'. Refute it at one input. -/
def fixReckonsWrong : ChangeSpec := { name := "fixReckons", fn := fun _ => fun
  | [d1, d2, d3] => { results := [.lit (.bool false)], args := [d1, d2, d3] }
  | _ => none }
def FixReckonsWrongFalsely : Prop := fixReckonsRow.holds Try.pinned (OpenSpec.ofChange fixReckonsWrong)

/-- 'psalterylaw13.QuantLevels': WHATEVER THE INPUT: true; the input reads as it did. -/
def quantLevelsSpec : ChangeSpec := { name := "quantLevels", fn := fun _ => fun
  | [d1, d2, d3, d4, d5] => { results := [.lit (.bool true)], args := [d1, d2, d3, d4, d5] }
  | _ => none }
def quantLevelsRow : OpenClaim := { program := "ytnaeondfkkiimaa", sum := "d31e80d25ced7f6e1f2001050b09183a80fc97e832c157b861760dd780ae00e8", func := "psaltery/psalterylaw13.QuantLevels", spec := "quantLevels", apart := false }
def QuantLevelsSaid : Prop := quantLevelsRow.holds Try.pinned (OpenSpec.ofChange quantLevelsSpec)

/-- ITS FALSE NEIGHBOUR: 'it returns false'. Refute it at one input. -/
def quantLevelsWrong : ChangeSpec := { name := "quantLevels", fn := fun _ => fun
  | [d1, d2, d3, d4, d5] => { results := [.lit (.bool false)], args := [d1, d2, d3, d4, d5] }
  | _ => none }
def QuantLevelsWrongFalsely : Prop := quantLevelsRow.holds Try.pinned (OpenSpec.ofChange quantLevelsWrong)

/-- 'psalterylaw13.QuantNear': WHATEVER THE INPUT: true; the input reads as it did. -/
def quantNearSpec : ChangeSpec := { name := "quantNear", fn := fun _ => fun
  | [d1, d2, d3] => { results := [.lit (.bool true)], args := [d1, d2, d3] }
  | _ => none }
def quantNearRow : OpenClaim := { program := "ytnaeondfkkiimaa", sum := "d31e80d25ced7f6e1f2001050b09183a80fc97e832c157b861760dd780ae00e8", func := "psaltery/psalterylaw13.QuantNear", spec := "quantNear", apart := false }
def QuantNearSaid : Prop := quantNearRow.holds Try.pinned (OpenSpec.ofChange quantNearSpec)

/-- ITS FALSE NEIGHBOUR: 'it returns false'. Refute it at one input. -/
def quantNearWrong : ChangeSpec := { name := "quantNear", fn := fun _ => fun
  | [d1, d2, d3] => { results := [.lit (.bool false)], args := [d1, d2, d3] }
  | _ => none }
def QuantNearWrongFalsely : Prop := quantNearRow.holds Try.pinned (OpenSpec.ofChange quantNearWrong)

/-- 'psalterylaw01.FixSums': WHATEVER THE INPUT: true; the input reads as it did. -/
def fixSumsSpec : ChangeSpec := { name := "fixSums", fn := fun _ => fun
  | [d1, d2, d3] => { results := [.lit (.bool true)], args := [d1, d2, d3] }
  | _ => none }
def fixSumsRow : OpenClaim := { program := "ytnaeondfkkiimaa", sum := "d31e80d25ced7f6e1f2001050b09183a80fc97e832c157b861760dd780ae00e8", func := "psaltery/psalterylaw01.FixSums", spec := "fixSums", apart := false }
def FixSumsSaid : Prop := fixSumsRow.holds Try.pinned (OpenSpec.ofChange fixSumsSpec)

/-- ITS FALSE NEIGHBOUR: 'it returns false'. Refute it at one input. -/
def fixSumsWrong : ChangeSpec := { name := "fixSums", fn := fun _ => fun
  | [d1, d2, d3] => { results := [.lit (.bool false)], args := [d1, d2, d3] }
  | _ => none }
def FixSumsWrongFalsely : Prop := fixSumsRow.holds Try.pinned (OpenSpec.ofChange fixSumsWrong)

/-- 'psalterylaw33.MixerPlain': WHATEVER THE INPUT: true; the input reads as it did. -/
def mixerPlainSpec : ChangeSpec := { name := "mixerPlain", fn := fun _ => fun
  | [d1, d2, d3, d4, d5, d6] => { results := [.lit (.bool true)], args := [d1, d2, d3, d4, d5, d6] }
  | _ => none }
def mixerPlainRow : OpenClaim := { program := "ytnaeondfkkiimaa", sum := "d31e80d25ced7f6e1f2001050b09183a80fc97e832c157b861760dd780ae00e8", func := "psaltery/psalterylaw33.MixerPlain", spec := "mixerPlain", unfollowed := true, recurses := true, apart := false }
def MixerPlainSaid : Prop := mixerPlainRow.holds Try.pinned (OpenSpec.ofChange mixerPlainSpec)

/-- ITS FALSE NEIGHBOUR: 'it returns false'. Refute it at one input. -/
def mixerPlainWrong : ChangeSpec := { name := "mixerPlain", fn := fun _ => fun
  | [d1, d2, d3, d4, d5, d6] => { results := [.lit (.bool false)], args := [d1, d2, d3, d4, d5, d6] }
  | _ => none }
def MixerPlainWrongFalsely : Prop := mixerPlainRow.holds Try.pinned (OpenSpec.ofChange mixerPlainWrong)

/-- 'psalterylaw13.QuantScales': WHATEVER THE INPUT: true; the input reads as it did. -/
def quantScalesSpec : ChangeSpec := { name := "quantScales", fn := fun _ => fun
  | [d] => { results := [.lit (.bool true)], args := [d] }
  | _ => none }
def quantScalesRow : OpenClaim := { program := "ytnaeondfkkiimaa", sum := "d31e80d25ced7f6e1f2001050b09183a80fc97e832c157b861760dd780ae00e8", func := "psaltery/psalterylaw13.QuantScales", spec := "quantScales", apart := false }
def QuantScalesSaid : Prop := quantScalesRow.holds Try.pinned (OpenSpec.ofChange quantScalesSpec)

/-- ITS FALSE NEIGHBOUR: 'it returns false'. Refute it at one input. -/
def quantScalesWrong : ChangeSpec := { name := "quantScales", fn := fun _ => fun
  | [d] => { results := [.lit (.bool false)], args := [d] }
  | _ => none }
def QuantScalesWrongFalsely : Prop := quantScalesRow.holds Try.pinned (OpenSpec.ofChange quantScalesWrong)

/-- 'psalterylaw13.QuantOrder': WHATEVER THE INPUT: true; the input reads as it did. -/
def quantOrderSpec : ChangeSpec := { name := "quantOrder", fn := fun _ => fun
  | [d1, d2, d3, d4, d5, d6] => { results := [.lit (.bool true)], args := [d1, d2, d3, d4, d5, d6] }
  | _ => none }
def quantOrderRow : OpenClaim := { program := "ytnaeondfkkiimaa", sum := "d31e80d25ced7f6e1f2001050b09183a80fc97e832c157b861760dd780ae00e8", func := "psaltery/psalterylaw13.QuantOrder", spec := "quantOrder", unfollowed := true, recurses := true, apart := false }
def QuantOrderSaid : Prop := quantOrderRow.holds Try.pinned (OpenSpec.ofChange quantOrderSpec)

/-- ITS FALSE NEIGHBOUR: 'it returns false'. Refute it at one input. -/
def quantOrderWrong : ChangeSpec := { name := "quantOrder", fn := fun _ => fun
  | [d1, d2, d3, d4, d5, d6] => { results := [.lit (.bool false)], args := [d1, d2, d3, d4, d5, d6] }
  | _ => none }
def QuantOrderWrongFalsely : Prop := quantOrderRow.holds Try.pinned (OpenSpec.ofChange quantOrderWrong)

/-- 'psalterylaw33.MixerMixes': WHATEVER THE INPUT: true; the input reads as it did. -/
def mixerMixesSpec : ChangeSpec := { name := "mixerMixes", fn := fun _ => fun
  | [d1, d2, d3, d4] => { results := [.lit (.bool true)], args := [d1, d2, d3, d4] }
  | _ => none }
def mixerMixesRow : OpenClaim := { program := "ytnaeondfkkiimaa", sum := "d31e80d25ced7f6e1f2001050b09183a80fc97e832c157b861760dd780ae00e8", func := "psaltery/psalterylaw33.MixerMixes", spec := "mixerMixes", unfollowed := true, recurses := true, apart := false }
def MixerMixesSaid : Prop := mixerMixesRow.holds Try.pinned (OpenSpec.ofChange mixerMixesSpec)

/-- ITS FALSE NEIGHBOUR: 'it returns false'. Refute it at one input. -/
def mixerMixesWrong : ChangeSpec := { name := "mixerMixes", fn := fun _ => fun
  | [d1, d2, d3, d4] => { results := [.lit (.bool false)], args := [d1, d2, d3, d4] }
  | _ => none }
def MixerMixesWrongFalsely : Prop := mixerMixesRow.holds Try.pinned (OpenSpec.ofChange mixerMixesWrong)

/-- 'psalterylaw13.QuantPairs': WHATEVER THE INPUT: true; the input reads as it did. -/
def quantPairsSpec : ChangeSpec := { name := "quantPairs", fn := fun _ => fun
  | [d1, d2] => { results := [.lit (.bool true)], args := [d1, d2] }
  | _ => none }
def quantPairsRow : OpenClaim := { program := "ytnaeondfkkiimaa", sum := "d31e80d25ced7f6e1f2001050b09183a80fc97e832c157b861760dd780ae00e8", func := "psaltery/psalterylaw13.QuantPairs", spec := "quantPairs", unfollowed := true, recurses := true, apart := false }
def QuantPairsSaid : Prop := quantPairsRow.holds Try.pinned (OpenSpec.ofChange quantPairsSpec)

/-- ITS FALSE NEIGHBOUR: 'it returns false'. Refute it at one input. -/
def quantPairsWrong : ChangeSpec := { name := "quantPairs", fn := fun _ => fun
  | [d1, d2] => { results := [.lit (.bool false)], args := [d1, d2] }
  | _ => none }
def QuantPairsWrongFalsely : Prop := quantPairsRow.holds Try.pinned (OpenSpec.ofChange quantPairsWrong)

/- THE SECOND FORM. 'bulk': how many values and letters a reading holds, each counted each time it is reached (what is shared counts as often as it is met; a slice's spare places count too). A statement '..UptoSaid' is the law's where the arguments, and the package variables that the reading takes, are together of bulk at most 1048576: NARROWER than '..Said'. Prove '..Said' where nothing that the law and all that it calls make is longer than what came in: it says more and counts as full. Else prove '..UptoSaid'. A law counts once. -/
mutual
def uptoBulk {H : Type} : DataW H → Nat
  | .lit (.string bytes) => bytes.length + 1
  | .lit _ => 1
  | .nil => 1
  | .ptr d => uptoBulk d + 1
  | .slice elems spare => uptoBulkAll elems + uptoBulkAll spare + 1
  | .agg parts => uptoBulkAll parts + 1
  | .iface _ d => uptoBulk d + 1
  | .map entries => uptoBulkEntries entries + 1
  | .held _ => 1
def uptoBulkAll {H : Type} : List (DataW H) → Nat
  | [] => 0
  | d :: r => uptoBulk d + uptoBulkAll r
def uptoBulkEntries {H : Type} : List (Lit × DataW H) → Nat
  | [] => 0
  | x :: r => uptoBulkEntry x + uptoBulkEntries r
def uptoBulkEntry {H : Type} : Lit × DataW H → Nat
  | (.string bytes, d) => bytes.length + uptoBulk d + 1
  | (_, d) => uptoBulk d + 1
 end
def uptoSmall : (H : Type) → List (DataW H) → Bool := fun _ ds => decide (uptoBulkAll ds ≤ 1048576)
def OpenSpec.upto (s : _root_.Go.ChangeSpec) : _root_.Go.OpenSpec := { _root_.Go.OpenSpec.ofChange s with cond := some uptoSmall }

/-- 'psalterylaw33.MixerResamples', WHERE WHAT IT READS IS OF BULK AT MOST 1048576: true; the input reads as it did. -/
def mixerResamplesUptoRow : OpenClaim := { program := "ytnaeondfkkiimaa", sum := "d31e80d25ced7f6e1f2001050b09183a80fc97e832c157b861760dd780ae00e8", func := "psaltery/psalterylaw33.MixerResamples", spec := "mixerResamples", unfollowed := true, recurses := true, apart := false, narrowed := true }
def MixerResamplesUptoSaid : Prop := mixerResamplesUptoRow.holds Try.pinned (OpenSpec.upto mixerResamplesSpec)

/-- 'psalterylaw01.FixNear', WHERE WHAT IT READS IS OF BULK AT MOST 1048576: true; the input reads as it did. -/
def fixNearUptoRow : OpenClaim := { program := "ytnaeondfkkiimaa", sum := "d31e80d25ced7f6e1f2001050b09183a80fc97e832c157b861760dd780ae00e8", func := "psaltery/psalterylaw01.FixNear", spec := "fixNear", apart := false, narrowed := true }
def FixNearUptoSaid : Prop := fixNearUptoRow.holds Try.pinned (OpenSpec.upto fixNearSpec)

/-- 'psalterylaw01.FixOrder', WHERE WHAT IT READS IS OF BULK AT MOST 1048576: true; the input reads as it did. -/
def fixOrderUptoRow : OpenClaim := { program := "ytnaeondfkkiimaa", sum := "d31e80d25ced7f6e1f2001050b09183a80fc97e832c157b861760dd780ae00e8", func := "psaltery/psalterylaw01.FixOrder", spec := "fixOrder", apart := false, narrowed := true }
def FixOrderUptoSaid : Prop := fixOrderUptoRow.holds Try.pinned (OpenSpec.upto fixOrderSpec)

/-- 'psalterylaw01.FixReckons', WHERE WHAT IT READS IS OF BULK AT MOST 1048576: true; the input reads as it did. -/
def fixReckonsUptoRow : OpenClaim := { program := "ytnaeondfkkiimaa", sum := "d31e80d25ced7f6e1f2001050b09183a80fc97e832c157b861760dd780ae00e8", func := "psaltery/psalterylaw01.FixReckons", spec := "fixReckons", apart := false, narrowed := true }
def FixReckonsUptoSaid : Prop := fixReckonsUptoRow.holds Try.pinned (OpenSpec.upto fixReckonsSpec)

/-- 'psalterylaw13.QuantLevels', WHERE WHAT IT READS IS OF BULK AT MOST 1048576: true; the input reads as it did. -/
def quantLevelsUptoRow : OpenClaim := { program := "ytnaeondfkkiimaa", sum := "d31e80d25ced7f6e1f2001050b09183a80fc97e832c157b861760dd780ae00e8", func := "psaltery/psalterylaw13.QuantLevels", spec := "quantLevels", apart := false, narrowed := true }
def QuantLevelsUptoSaid : Prop := quantLevelsUptoRow.holds Try.pinned (OpenSpec.upto quantLevelsSpec)

/-- 'psalterylaw13.QuantNear', WHERE WHAT IT READS IS OF BULK AT MOST 1048576: true; the input reads as it did. -/
def quantNearUptoRow : OpenClaim := { program := "ytnaeondfkkiimaa", sum := "d31e80d25ced7f6e1f2001050b09183a80fc97e832c157b861760dd780ae00e8", func := "psaltery/psalterylaw13.QuantNear", spec := "quantNear", apart := false, narrowed := true }
def QuantNearUptoSaid : Prop := quantNearUptoRow.holds Try.pinned (OpenSpec.upto quantNearSpec)

/-- 'psalterylaw01.FixSums', WHERE WHAT IT READS IS OF BULK AT MOST 1048576: true; the input reads as it did. -/
def fixSumsUptoRow : OpenClaim := { program := "ytnaeondfkkiimaa", sum := "d31e80d25ced7f6e1f2001050b09183a80fc97e832c157b861760dd780ae00e8", func := "psaltery/psalterylaw01.FixSums", spec := "fixSums", apart := false, narrowed := true }
def FixSumsUptoSaid : Prop := fixSumsUptoRow.holds Try.pinned (OpenSpec.upto fixSumsSpec)

/-- 'psalterylaw33.MixerPlain', WHERE WHAT IT READS IS OF BULK AT MOST 1048576: true; the input reads as it did. -/
def mixerPlainUptoRow : OpenClaim := { program := "ytnaeondfkkiimaa", sum := "d31e80d25ced7f6e1f2001050b09183a80fc97e832c157b861760dd780ae00e8", func := "psaltery/psalterylaw33.MixerPlain", spec := "mixerPlain", unfollowed := true, recurses := true, apart := false, narrowed := true }
def MixerPlainUptoSaid : Prop := mixerPlainUptoRow.holds Try.pinned (OpenSpec.upto mixerPlainSpec)

/-- 'psalterylaw13.QuantScales', WHERE WHAT IT READS IS OF BULK AT MOST 1048576: true; the input reads as it did. -/
def quantScalesUptoRow : OpenClaim := { program := "ytnaeondfkkiimaa", sum := "d31e80d25ced7f6e1f2001050b09183a80fc97e832c157b861760dd780ae00e8", func := "psaltery/psalterylaw13.QuantScales", spec := "quantScales", apart := false, narrowed := true }
def QuantScalesUptoSaid : Prop := quantScalesUptoRow.holds Try.pinned (OpenSpec.upto quantScalesSpec)

/-- 'psalterylaw13.QuantOrder', WHERE WHAT IT READS IS OF BULK AT MOST 1048576: true; the input reads as it did. -/
def quantOrderUptoRow : OpenClaim := { program := "ytnaeondfkkiimaa", sum := "d31e80d25ced7f6e1f2001050b09183a80fc97e832c157b861760dd780ae00e8", func := "psaltery/psalterylaw13.QuantOrder", spec := "quantOrder", unfollowed := true, recurses := true, apart := false, narrowed := true }
def QuantOrderUptoSaid : Prop := quantOrderUptoRow.holds Try.pinned (OpenSpec.upto quantOrderSpec)

/-- 'psalterylaw33.MixerMixes', WHERE WHAT IT READS IS OF BULK AT MOST 1048576: true; the input reads as it did. -/
def mixerMixesUptoRow : OpenClaim := { program := "ytnaeondfkkiimaa", sum := "d31e80d25ced7f6e1f2001050b09183a80fc97e832c157b861760dd780ae00e8", func := "psaltery/psalterylaw33.MixerMixes", spec := "mixerMixes", unfollowed := true, recurses := true, apart := false, narrowed := true }
def MixerMixesUptoSaid : Prop := mixerMixesUptoRow.holds Try.pinned (OpenSpec.upto mixerMixesSpec)

/-- 'psalterylaw13.QuantPairs', WHERE WHAT IT READS IS OF BULK AT MOST 1048576: true; the input reads as it did. -/
def quantPairsUptoRow : OpenClaim := { program := "ytnaeondfkkiimaa", sum := "d31e80d25ced7f6e1f2001050b09183a80fc97e832c157b861760dd780ae00e8", func := "psaltery/psalterylaw13.QuantPairs", spec := "quantPairs", unfollowed := true, recurses := true, apart := false, narrowed := true }
def QuantPairsUptoSaid : Prop := quantPairsUptoRow.holds Try.pinned (OpenSpec.upto quantPairsSpec)

end Rows
end Go.Proofs.Ytnaeondfkkiimaa
