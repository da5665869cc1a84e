/-
  No cell of these rows narrows 'for every input' (looked for: loops, veiled, ifaces, maps, wideKeys, modest, calm, conditions, laid).
  DERIVED. THE GIVEN ROWS OF THIS SEAT. 11 by the template 'for every input the law returns true; each argument reads behind the call as it read before'; 0 by the template 'total and deterministic' (their statements: YtijfinimlnedpaaTotals.lean).
  GIVEN WITH THE SEED: the statements are not yours to turn. If you find one false, say at which input.
  Laid BY PROGRAM, IN A SANDBOX (cutbox-rows.mjs): the forced cells as the released guide's own fill.sh prints them over the translation 6849482b08a0bb03… (all of the seat's roots in one cut). By AI agents, Wed Nov 11 2026. No macro, syntax, notation, axiom, sorry.
-/
import Derived.Test.YtijfinimlnedpaaChecked
import GoSem.Claim
import GoSem.ClaimJoined
import GoSem.ClaimMapViews
import Derived.JoinedTies
import Derived.KernelRfl
namespace Go.Proofs.Ytijfinimlnedpaa
/- THE CELL 'sum', in the pinned program and in every row, IS THE sha256 OF THE DUMP (.gsa) THAT YtijfinimlnedpaaProg.lean LOADS. Nothing in Lean hashes anything: it is a label: what it is worth is what the hold of that sum in a sandbox is worth. -/
noncomputable def Try.pinned : Pinned := { name := "ytijfinimlnedpaa", sum := "6849482b08a0bb0314d7dabaff5339f9a7becfd8ce4adb7acaaeab62bf2ede68", checked := Try.checked }
namespace Rows
def none {H : Type} : Left H := { results := [], args := [] }

/-- 'bakekeep3.SampSums': WHATEVER THE INPUT: true; the input reads as it did. -/
def sampSumsSpec : ChangeSpec := { name := "sampSums", fn := fun _ => fun
  | [d1, d2, d3] => { results := [.lit (.bool true)], args := [d1, d2, d3] }
  | _ => none }
def sampSumsRow : OpenClaim := { program := "ytijfinimlnedpaa", sum := "6849482b08a0bb0314d7dabaff5339f9a7becfd8ce4adb7acaaeab62bf2ede68", func := "bakelite/bakekeep3.SampSums", spec := "sampSums", unfollowed := true, recurses := true, apart := false }
def SampSumsSaid : Prop := sampSumsRow.holds Try.pinned (OpenSpec.ofChange sampSumsSpec)

/-- ITS FALSE NEIGHBOUR: 'it returns false'. Refute it at one input. -/
def sampSumsWrong : ChangeSpec := { name := "sampSums", fn := fun _ => fun
  | [d1, d2, d3] => { results := [.lit (.bool false)], args := [d1, d2, d3] }
  | _ => none }
def SampSumsWrongFalsely : Prop := sampSumsRow.holds Try.pinned (OpenSpec.ofChange sampSumsWrong)

/-- 'bakekeep3.SampTwice': WHATEVER THE INPUT: true; the input reads as it did. -/
def sampTwiceSpec : ChangeSpec := { name := "sampTwice", fn := fun _ => fun
  | [d1, d2] => { results := [.lit (.bool true)], args := [d1, d2] }
  | _ => none }
def sampTwiceRow : OpenClaim := { program := "ytijfinimlnedpaa", sum := "6849482b08a0bb0314d7dabaff5339f9a7becfd8ce4adb7acaaeab62bf2ede68", func := "bakelite/bakekeep3.SampTwice", spec := "sampTwice", unfollowed := true, recurses := true, apart := false }
def SampTwiceSaid : Prop := sampTwiceRow.holds Try.pinned (OpenSpec.ofChange sampTwiceSpec)

/-- ITS FALSE NEIGHBOUR: 'it returns false'. Refute it at one input. -/
def sampTwiceWrong : ChangeSpec := { name := "sampTwice", fn := fun _ => fun
  | [d1, d2] => { results := [.lit (.bool false)], args := [d1, d2] }
  | _ => none }
def SampTwiceWrongFalsely : Prop := sampTwiceRow.holds Try.pinned (OpenSpec.ofChange sampTwiceWrong)

/-- 'bakekeep3.KeysBack': WHATEVER THE INPUT: true; the input reads as it did. -/
def keysBackSpec : ChangeSpec := { name := "keysBack", fn := fun _ => fun
  | [d] => { results := [.lit (.bool true)], args := [d] }
  | _ => none }
def keysBackRow : OpenClaim := { program := "ytijfinimlnedpaa", sum := "6849482b08a0bb0314d7dabaff5339f9a7becfd8ce4adb7acaaeab62bf2ede68", func := "bakelite/bakekeep3.KeysBack", spec := "keysBack", apart := false }
def KeysBackSaid : Prop := keysBackRow.holds Try.pinned (OpenSpec.ofChange keysBackSpec)

/-- ITS FALSE NEIGHBOUR: 'it returns false'. Refute it at one input. -/
def keysBackWrong : ChangeSpec := { name := "keysBack", fn := fun _ => fun
  | [d] => { results := [.lit (.bool false)], args := [d] }
  | _ => none }
def KeysBackWrongFalsely : Prop := keysBackRow.holds Try.pinned (OpenSpec.ofChange keysBackWrong)

/-- 'bakekeep3.KeysHold': WHATEVER THE INPUT: true; the input reads as it did. -/
def keysHoldSpec : ChangeSpec := { name := "keysHold", fn := fun _ => fun
  | [d1, d2] => { results := [.lit (.bool true)], args := [d1, d2] }
  | _ => none }
def keysHoldRow : OpenClaim := { program := "ytijfinimlnedpaa", sum := "6849482b08a0bb0314d7dabaff5339f9a7becfd8ce4adb7acaaeab62bf2ede68", func := "bakelite/bakekeep3.KeysHold", spec := "keysHold", unfollowed := true, recurses := true, apart := false }
def KeysHoldSaid : Prop := keysHoldRow.holds Try.pinned (OpenSpec.ofChange keysHoldSpec)

/-- ITS FALSE NEIGHBOUR: 'it returns false'. Refute it at one input. -/
def keysHoldWrong : ChangeSpec := { name := "keysHold", fn := fun _ => fun
  | [d1, d2] => { results := [.lit (.bool false)], args := [d1, d2] }
  | _ => none }
def KeysHoldWrongFalsely : Prop := keysHoldRow.holds Try.pinned (OpenSpec.ofChange keysHoldWrong)

/-- 'bakekeep3.SampMixed': WHATEVER THE INPUT: true; the input reads as it did. -/
def sampMixedSpec : ChangeSpec := { name := "sampMixed", fn := fun _ => fun
  | [d1, d2, d3] => { results := [.lit (.bool true)], args := [d1, d2, d3] }
  | _ => none }
def sampMixedRow : OpenClaim := { program := "ytijfinimlnedpaa", sum := "6849482b08a0bb0314d7dabaff5339f9a7becfd8ce4adb7acaaeab62bf2ede68", func := "bakelite/bakekeep3.SampMixed", spec := "sampMixed", unfollowed := true, recurses := true, apart := false }
def SampMixedSaid : Prop := sampMixedRow.holds Try.pinned (OpenSpec.ofChange sampMixedSpec)

/-- ITS FALSE NEIGHBOUR: 'it returns false'. Refute it at one input. -/
def sampMixedWrong : ChangeSpec := { name := "sampMixed", fn := fun _ => fun
  | [d1, d2, d3] => { results := [.lit (.bool false)], args := [d1, d2, d3] }
  | _ => none }
def SampMixedWrongFalsely : Prop := sampMixedRow.holds Try.pinned (OpenSpec.ofChange sampMixedWrong)

/-- 'bakekeep3.LearnMin': WHATEVER THE INPUT: true; the input reads as it did. -/
def learnMinSpec : ChangeSpec := { name := "learnMin", fn := fun _ => fun
  | [d1, d2] => { results := [.lit (.bool true)], args := [d1, d2] }
  | _ => none }
def learnMinRow : OpenClaim := { program := "ytijfinimlnedpaa", sum := "6849482b08a0bb0314d7dabaff5339f9a7becfd8ce4adb7acaaeab62bf2ede68", func := "bakelite/bakekeep3.LearnMin", spec := "learnMin", unfollowed := true, recurses := true, apart := false }
def LearnMinSaid : Prop := learnMinRow.holds Try.pinned (OpenSpec.ofChange learnMinSpec)

/-- ITS FALSE NEIGHBOUR: 'it returns false'. Refute it at one input. -/
def learnMinWrong : ChangeSpec := { name := "learnMin", fn := fun _ => fun
  | [d1, d2] => { results := [.lit (.bool false)], args := [d1, d2] }
  | _ => none }
def LearnMinWrongFalsely : Prop := learnMinRow.holds Try.pinned (OpenSpec.ofChange learnMinWrong)

/-- 'bakekeep3.SampPeriods': WHATEVER THE INPUT: true; the input reads as it did. -/
def sampPeriodsSpec : ChangeSpec := { name := "sampPeriods", fn := fun _ => fun
  | [d1, d2] => { results := [.lit (.bool true)], args := [d1, d2] }
  | _ => none }
def sampPeriodsRow : OpenClaim := { program := "ytijfinimlnedpaa", sum := "6849482b08a0bb0314d7dabaff5339f9a7becfd8ce4adb7acaaeab62bf2ede68", func := "bakelite/bakekeep3.SampPeriods", spec := "sampPeriods", unfollowed := true, recurses := true, apart := false }
def SampPeriodsSaid : Prop := sampPeriodsRow.holds Try.pinned (OpenSpec.ofChange sampPeriodsSpec)

/-- ITS FALSE NEIGHBOUR: 'it returns false'. Refute it at one input. -/
def sampPeriodsWrong : ChangeSpec := { name := "sampPeriods", fn := fun _ => fun
  | [d1, d2] => { results := [.lit (.bool false)], args := [d1, d2] }
  | _ => none }
def SampPeriodsWrongFalsely : Prop := sampPeriodsRow.holds Try.pinned (OpenSpec.ofChange sampPeriodsWrong)

/-- 'bakekeep3.FrameBack': WHATEVER THE INPUT: true; the input reads as it did. -/
def frameBackSpec : ChangeSpec := { name := "frameBack", fn := fun _ => fun
  | [d1, d2, d3] => { results := [.lit (.bool true)], args := [d1, d2, d3] }
  | _ => none }
def frameBackRow : OpenClaim := { program := "ytijfinimlnedpaa", sum := "6849482b08a0bb0314d7dabaff5339f9a7becfd8ce4adb7acaaeab62bf2ede68", func := "bakelite/bakekeep3.FrameBack", spec := "frameBack", unfollowed := true, recurses := true, apart := false }
def FrameBackSaid : Prop := frameBackRow.holds Try.pinned (OpenSpec.ofChange frameBackSpec)

/-- ITS FALSE NEIGHBOUR: 'it returns false'. Refute it at one input. -/
def frameBackWrong : ChangeSpec := { name := "frameBack", fn := fun _ => fun
  | [d1, d2, d3] => { results := [.lit (.bool false)], args := [d1, d2, d3] }
  | _ => none }
def FrameBackWrongFalsely : Prop := frameBackRow.holds Try.pinned (OpenSpec.ofChange frameBackWrong)

/-- 'bakekeep3.PaperWays': WHATEVER THE INPUT: true; the input reads as it did. -/
def paperWaysSpec : ChangeSpec := { name := "paperWays", fn := fun _ => fun
  | [d1, d2, d3, d4, d5] => { results := [.lit (.bool true)], args := [d1, d2, d3, d4, d5] }
  | _ => none }
def paperWaysRow : OpenClaim := { program := "ytijfinimlnedpaa", sum := "6849482b08a0bb0314d7dabaff5339f9a7becfd8ce4adb7acaaeab62bf2ede68", func := "bakelite/bakekeep3.PaperWays", spec := "paperWays", unfollowed := true, recurses := true, apart := false }
def PaperWaysSaid : Prop := paperWaysRow.holds Try.pinned (OpenSpec.ofChange paperWaysSpec)

/-- ITS FALSE NEIGHBOUR: 'it returns false'. Refute it at one input. -/
def paperWaysWrong : ChangeSpec := { name := "paperWays", fn := fun _ => fun
  | [d1, d2, d3, d4, d5] => { results := [.lit (.bool false)], args := [d1, d2, d3, d4, d5] }
  | _ => none }
def PaperWaysWrongFalsely : Prop := paperWaysRow.holds Try.pinned (OpenSpec.ofChange paperWaysWrong)

/-- 'bakekeep3.GateSteps': WHATEVER THE INPUT: true; the input reads as it did. -/
def gateStepsSpec : ChangeSpec := { name := "gateSteps", fn := fun _ => fun
  | [d1, d2] => { results := [.lit (.bool true)], args := [d1, d2] }
  | _ => none }
def gateStepsRow : OpenClaim := { program := "ytijfinimlnedpaa", sum := "6849482b08a0bb0314d7dabaff5339f9a7becfd8ce4adb7acaaeab62bf2ede68", func := "bakelite/bakekeep3.GateSteps", spec := "gateSteps", apart := false }
def GateStepsSaid : Prop := gateStepsRow.holds Try.pinned (OpenSpec.ofChange gateStepsSpec)

/-- ITS FALSE NEIGHBOUR: 'it returns false'. Refute it at one input. -/
def gateStepsWrong : ChangeSpec := { name := "gateSteps", fn := fun _ => fun
  | [d1, d2] => { results := [.lit (.bool false)], args := [d1, d2] }
  | _ => none }
def GateStepsWrongFalsely : Prop := gateStepsRow.holds Try.pinned (OpenSpec.ofChange gateStepsWrong)

/-- 'bakekeep3.FrameText': WHATEVER THE INPUT: true; the input reads as it did. -/
def frameTextSpec : ChangeSpec := { name := "frameText", fn := fun _ => fun
  | [d1, d2, d3] => { results := [.lit (.bool true)], args := [d1, d2, d3] }
  | _ => none }
def frameTextRow : OpenClaim := { program := "ytijfinimlnedpaa", sum := "6849482b08a0bb0314d7dabaff5339f9a7becfd8ce4adb7acaaeab62bf2ede68", func := "bakelite/bakekeep3.FrameText", spec := "frameText", inPlace := ["internal/abi.NoEscape", "internal/bytealg.IndexByteString"], unfollowed := true, recurses := true, apart := false }
def FrameTextSaid : Prop := frameTextRow.holds Try.pinned (OpenSpec.ofChange frameTextSpec)

/-- ITS FALSE NEIGHBOUR: 'it returns false'. Refute it at one input. -/
def frameTextWrong : ChangeSpec := { name := "frameText", fn := fun _ => fun
  | [d1, d2, d3] => { results := [.lit (.bool false)], args := [d1, d2, d3] }
  | _ => none }
def FrameTextWrongFalsely : Prop := frameTextRow.holds Try.pinned (OpenSpec.ofChange frameTextWrong)

/- THE SECOND FORM. 'bulk': how many values and letters a reading holds, each counted each time it is reached (what is shared counts as often as it is met; a slice's spare places count too). A statement '..UptoSaid' is the law's where the arguments, and the package variables that the reading takes, are together of bulk at most 1048576: NARROWER than '..Said'. Prove '..Said' where nothing that the law and all that it calls make is longer than what came in: it says more and counts as full. Else prove '..UptoSaid'. A law counts once. -/
mutual
def uptoBulk {H : Type} : DataW H → Nat
  | .lit (.string bytes) => bytes.length + 1
  | .lit _ => 1
  | .nil => 1
  | .ptr d => uptoBulk d + 1
  | .slice elems spare => uptoBulkAll elems + uptoBulkAll spare + 1
  | .agg parts => uptoBulkAll parts + 1
  | .iface _ d => uptoBulk d + 1
  | .map entries => uptoBulkEntries entries + 1
  | .held _ => 1
def uptoBulkAll {H : Type} : List (DataW H) → Nat
  | [] => 0
  | d :: r => uptoBulk d + uptoBulkAll r
def uptoBulkEntries {H : Type} : List (Lit × DataW H) → Nat
  | [] => 0
  | x :: r => uptoBulkEntry x + uptoBulkEntries r
def uptoBulkEntry {H : Type} : Lit × DataW H → Nat
  | (.string bytes, d) => bytes.length + uptoBulk d + 1
  | (_, d) => uptoBulk d + 1
 end
def uptoSmall : (H : Type) → List (DataW H) → Bool := fun _ ds => decide (uptoBulkAll ds ≤ 1048576)
def OpenSpec.upto (s : _root_.Go.ChangeSpec) : _root_.Go.OpenSpec := { _root_.Go.OpenSpec.ofChange s with cond := some uptoSmall }

/-- 'bakekeep3.SampSums', WHERE WHAT IT READS IS OF BULK AT MOST 1048576: true; the input reads as it did. -/
def sampSumsUptoRow : OpenClaim := { program := "ytijfinimlnedpaa", sum := "6849482b08a0bb0314d7dabaff5339f9a7becfd8ce4adb7acaaeab62bf2ede68", func := "bakelite/bakekeep3.SampSums", spec := "sampSums", unfollowed := true, recurses := true, apart := false, narrowed := true }
def SampSumsUptoSaid : Prop := sampSumsUptoRow.holds Try.pinned (OpenSpec.upto sampSumsSpec)

/-- 'bakekeep3.SampTwice', WHERE WHAT IT READS IS OF BULK AT MOST 1048576: true; the input reads as it did. -/
def sampTwiceUptoRow : OpenClaim := { program := "ytijfinimlnedpaa", sum := "6849482b08a0bb0314d7dabaff5339f9a7becfd8ce4adb7acaaeab62bf2ede68", func := "bakelite/bakekeep3.SampTwice", spec := "sampTwice", unfollowed := true, recurses := true, apart := false, narrowed := true }
def SampTwiceUptoSaid : Prop := sampTwiceUptoRow.holds Try.pinned (OpenSpec.upto sampTwiceSpec)

/-- 'bakekeep3.KeysBack', WHERE WHAT IT READS IS OF BULK AT MOST 1048576: true; the input reads as it did. -/
def keysBackUptoRow : OpenClaim := { program := "ytijfinimlnedpaa", sum := "6849482b08a0bb0314d7dabaff5339f9a7becfd8ce4adb7acaaeab62bf2ede68", func := "bakelite/bakekeep3.KeysBack", spec := "keysBack", apart := false, narrowed := true }
def KeysBackUptoSaid : Prop := keysBackUptoRow.holds Try.pinned (OpenSpec.upto keysBackSpec)

/-- 'bakekeep3.KeysHold', WHERE WHAT IT READS IS OF BULK AT MOST 1048576: true; the input reads as it did. -/
def keysHoldUptoRow : OpenClaim := { program := "ytijfinimlnedpaa", sum := "6849482b08a0bb0314d7dabaff5339f9a7becfd8ce4adb7acaaeab62bf2ede68", func := "bakelite/bakekeep3.KeysHold", spec := "keysHold", unfollowed := true, recurses := true, apart := false, narrowed := true }
def KeysHoldUptoSaid : Prop := keysHoldUptoRow.holds Try.pinned (OpenSpec.upto keysHoldSpec)

/-- 'bakekeep3.SampMixed', WHERE WHAT IT READS IS OF BULK AT MOST 1048576: true; the input reads as it did. -/
def sampMixedUptoRow : OpenClaim := { program := "ytijfinimlnedpaa", sum := "6849482b08a0bb0314d7dabaff5339f9a7becfd8ce4adb7acaaeab62bf2ede68", func := "bakelite/bakekeep3.SampMixed", spec := "sampMixed", unfollowed := true, recurses := true, apart := false, narrowed := true }
def SampMixedUptoSaid : Prop := sampMixedUptoRow.holds Try.pinned (OpenSpec.upto sampMixedSpec)

/-- 'bakekeep3.LearnMin', WHERE WHAT IT READS IS OF BULK AT MOST 1048576: true; the input reads as it did. -/
def learnMinUptoRow : OpenClaim := { program := "ytijfinimlnedpaa", sum := "6849482b08a0bb0314d7dabaff5339f9a7becfd8ce4adb7acaaeab62bf2ede68", func := "bakelite/bakekeep3.LearnMin", spec := "learnMin", unfollowed := true, recurses := true, apart := false, narrowed := true }
def LearnMinUptoSaid : Prop := learnMinUptoRow.holds Try.pinned (OpenSpec.upto learnMinSpec)

/-- 'bakekeep3.SampPeriods', WHERE WHAT IT READS IS OF BULK AT MOST 1048576: true; the input reads as it did. -/
def sampPeriodsUptoRow : OpenClaim := { program := "ytijfinimlnedpaa", sum := "6849482b08a0bb0314d7dabaff5339f9a7becfd8ce4adb7acaaeab62bf2ede68", func := "bakelite/bakekeep3.SampPeriods", spec := "sampPeriods", unfollowed := true, recurses := true, apart := false, narrowed := true }
def SampPeriodsUptoSaid : Prop := sampPeriodsUptoRow.holds Try.pinned (OpenSpec.upto sampPeriodsSpec)

/-- 'bakekeep3.FrameBack', WHERE WHAT IT READS IS OF BULK AT MOST 1048576: true; the input reads as it did. -/
def frameBackUptoRow : OpenClaim := { program := "ytijfinimlnedpaa", sum := "6849482b08a0bb0314d7dabaff5339f9a7becfd8ce4adb7acaaeab62bf2ede68", func := "bakelite/bakekeep3.FrameBack", spec := "frameBack", unfollowed := true, recurses := true, apart := false, narrowed := true }
def FrameBackUptoSaid : Prop := frameBackUptoRow.holds Try.pinned (OpenSpec.upto frameBackSpec)

/-- 'bakekeep3.PaperWays', WHERE WHAT IT READS IS OF BULK AT MOST 1048576: true; the input reads as it did. -/
def paperWaysUptoRow : OpenClaim := { program := "ytijfinimlnedpaa", sum := "6849482b08a0bb0314d7dabaff5339f9a7becfd8ce4adb7acaaeab62bf2ede68", func := "bakelite/bakekeep3.PaperWays", spec := "paperWays", unfollowed := true, recurses := true, apart := false, narrowed := true }
def PaperWaysUptoSaid : Prop := paperWaysUptoRow.holds Try.pinned (OpenSpec.upto paperWaysSpec)

/-- 'bakekeep3.GateSteps', WHERE WHAT IT READS IS OF BULK AT MOST 1048576: true; the input reads as it did. -/
def gateStepsUptoRow : OpenClaim := { program := "ytijfinimlnedpaa", sum := "6849482b08a0bb0314d7dabaff5339f9a7becfd8ce4adb7acaaeab62bf2ede68", func := "bakelite/bakekeep3.GateSteps", spec := "gateSteps", apart := false, narrowed := true }
def GateStepsUptoSaid : Prop := gateStepsUptoRow.holds Try.pinned (OpenSpec.upto gateStepsSpec)

/-- 'bakekeep3.FrameText', WHERE WHAT IT READS IS OF BULK AT MOST 1048576: true; the input reads as it did. -/
def frameTextUptoRow : OpenClaim := { program := "ytijfinimlnedpaa", sum := "6849482b08a0bb0314d7dabaff5339f9a7becfd8ce4adb7acaaeab62bf2ede68", func := "bakelite/bakekeep3.FrameText", spec := "frameText", inPlace := ["internal/abi.NoEscape", "internal/bytealg.IndexByteString"], unfollowed := true, recurses := true, apart := false, narrowed := true }
def FrameTextUptoSaid : Prop := frameTextUptoRow.holds Try.pinned (OpenSpec.upto frameTextSpec)

end Rows
end Go.Proofs.Ytijfinimlnedpaa
