/-
  No cell of these rows narrows 'for every input' (looked for: loops, veiled, ifaces, maps, wideKeys, modest, calm, conditions, laid).
  DERIVED. THE GIVEN ROWS OF THIS SEAT. 8 by the template 'for every input the law returns true; each argument reads behind the call as it read before'; 0 by the template 'total and deterministic' (their statements: YtaalafnkglbcpaaTotals.lean).
  GIVEN WITH THE SEED: the statements are not yours to turn. If you find one false, say at which input.
  Laid BY PROGRAM, IN A SANDBOX (cutbox-rows.mjs): the forced cells as the released guide's own fill.sh prints them over the translation a6d79029147bc2de… (all of the seat's roots in one cut). By AI agents, Wed Nov 11 2026. No macro, syntax, notation, axiom, sorry.
-/
import Derived.Test.YtaalafnkglbcpaaChecked
import GoSem.Claim
import GoSem.ClaimJoined
import GoSem.ClaimMapViews
import Derived.JoinedTies
import Derived.KernelRfl
namespace Go.Proofs.Ytaalafnkglbcpaa
/- THE CELL 'sum', in the pinned program and in every row, IS THE sha256 OF THE DUMP (.gsa) THAT YtaalafnkglbcpaaProg.lean LOADS. Nothing in Lean hashes anything: it is a label: what it is worth is what the hold of that sum in a sandbox is worth. -/
noncomputable def Try.pinned : Pinned := { name := "ytaalafnkglbcpaa", sum := "a6d79029147bc2ded5ae2aaa61582e9ea913cc4408a99c9d6216cfbf4e8a9ecf", checked := Try.checked }
namespace Rows
def none {H : Type} : Left H := { results := [], args := [] }

/-- 'bakekeep3.LearnMin': WHATEVER THE INPUT: true; the input reads as it did. -/
def learnMinSpec : ChangeSpec := { name := "learnMin", fn := fun _ => fun
  | [d1, d2] => { results := [.lit (.bool true)], args := [d1, d2] }
  | _ => none }
def learnMinRow : OpenClaim := { program := "ytaalafnkglbcpaa", sum := "a6d79029147bc2ded5ae2aaa61582e9ea913cc4408a99c9d6216cfbf4e8a9ecf", func := "bakelite/bakekeep3.LearnMin", spec := "learnMin", unfollowed := true, recurses := true, plainKeys := false, apart := false }
def LearnMinSaid : Prop := learnMinRow.holds Try.pinned (OpenSpec.ofChange learnMinSpec)

/-- ITS FALSE NEIGHBOUR: 'it returns false'. Refute it at one input. -/
def learnMinWrong : ChangeSpec := { name := "learnMin", fn := fun _ => fun
  | [d1, d2] => { results := [.lit (.bool false)], args := [d1, d2] }
  | _ => none }
def LearnMinWrongFalsely : Prop := learnMinRow.holds Try.pinned (OpenSpec.ofChange learnMinWrong)

/-- 'bakekeep3.GateSteps': WHATEVER THE INPUT: true; the input reads as it did. -/
def gateStepsSpec : ChangeSpec := { name := "gateSteps", fn := fun _ => fun
  | [d1, d2] => { results := [.lit (.bool true)], args := [d1, d2] }
  | _ => none }
def gateStepsRow : OpenClaim := { program := "ytaalafnkglbcpaa", sum := "a6d79029147bc2ded5ae2aaa61582e9ea913cc4408a99c9d6216cfbf4e8a9ecf", func := "bakelite/bakekeep3.GateSteps", spec := "gateSteps", plainKeys := false, apart := false }
def GateStepsSaid : Prop := gateStepsRow.holds Try.pinned (OpenSpec.ofChange gateStepsSpec)

/-- ITS FALSE NEIGHBOUR: 'it returns false'. Refute it at one input. -/
def gateStepsWrong : ChangeSpec := { name := "gateSteps", fn := fun _ => fun
  | [d1, d2] => { results := [.lit (.bool false)], args := [d1, d2] }
  | _ => none }
def GateStepsWrongFalsely : Prop := gateStepsRow.holds Try.pinned (OpenSpec.ofChange gateStepsWrong)

/-- 'bakekeep3.GateHangs': WHATEVER THE INPUT: true; the input reads as it did. -/
def gateHangsSpec : ChangeSpec := { name := "gateHangs", fn := fun _ => fun
  | [d1, d2, d3] => { results := [.lit (.bool true)], args := [d1, d2, d3] }
  | _ => none }
def gateHangsRow : OpenClaim := { program := "ytaalafnkglbcpaa", sum := "a6d79029147bc2ded5ae2aaa61582e9ea913cc4408a99c9d6216cfbf4e8a9ecf", func := "bakelite/bakekeep3.GateHangs", spec := "gateHangs", unfollowed := true, recurses := true, plainKeys := false, apart := false }
def GateHangsSaid : Prop := gateHangsRow.holds Try.pinned (OpenSpec.ofChange gateHangsSpec)

/-- ITS FALSE NEIGHBOUR: 'it returns false'. Refute it at one input. -/
def gateHangsWrong : ChangeSpec := { name := "gateHangs", fn := fun _ => fun
  | [d1, d2, d3] => { results := [.lit (.bool false)], args := [d1, d2, d3] }
  | _ => none }
def GateHangsWrongFalsely : Prop := gateHangsRow.holds Try.pinned (OpenSpec.ofChange gateHangsWrong)

/-- 'bakekeep3.LearnBoxes': WHATEVER THE INPUT: true; the input reads as it did. -/
def learnBoxesSpec : ChangeSpec := { name := "learnBoxes", fn := fun _ => fun
  | [d1, d2] => { results := [.lit (.bool true)], args := [d1, d2] }
  | _ => none }
def learnBoxesRow : OpenClaim := { program := "ytaalafnkglbcpaa", sum := "a6d79029147bc2ded5ae2aaa61582e9ea913cc4408a99c9d6216cfbf4e8a9ecf", func := "bakelite/bakekeep3.LearnBoxes", spec := "learnBoxes", unfollowed := true, recurses := true, plainKeys := false, apart := false }
def LearnBoxesSaid : Prop := learnBoxesRow.holds Try.pinned (OpenSpec.ofChange learnBoxesSpec)

/-- ITS FALSE NEIGHBOUR: 'it returns false'. Refute it at one input. -/
def learnBoxesWrong : ChangeSpec := { name := "learnBoxes", fn := fun _ => fun
  | [d1, d2] => { results := [.lit (.bool false)], args := [d1, d2] }
  | _ => none }
def LearnBoxesWrongFalsely : Prop := learnBoxesRow.holds Try.pinned (OpenSpec.ofChange learnBoxesWrong)

/-- 'bakekeep3.EqualTells': WHATEVER THE INPUT: true; the input reads as it did. -/
def equalTellsSpec : ChangeSpec := { name := "equalTells", fn := fun _ => fun
  | [d1, d2, d3] => { results := [.lit (.bool true)], args := [d1, d2, d3] }
  | _ => none }
def equalTellsRow : OpenClaim := { program := "ytaalafnkglbcpaa", sum := "a6d79029147bc2ded5ae2aaa61582e9ea913cc4408a99c9d6216cfbf4e8a9ecf", func := "bakelite/bakekeep3.EqualTells", spec := "equalTells", unfollowed := true, recurses := true, plainKeys := false, apart := false }
def EqualTellsSaid : Prop := equalTellsRow.holds Try.pinned (OpenSpec.ofChange equalTellsSpec)

/-- ITS FALSE NEIGHBOUR: 'it returns false'. Refute it at one input. -/
def equalTellsWrong : ChangeSpec := { name := "equalTells", fn := fun _ => fun
  | [d1, d2, d3] => { results := [.lit (.bool false)], args := [d1, d2, d3] }
  | _ => none }
def EqualTellsWrongFalsely : Prop := equalTellsRow.holds Try.pinned (OpenSpec.ofChange equalTellsWrong)

/-- 'bakekeep3.SynthBack': WHATEVER THE INPUT: true; the input reads as it did. -/
def synthBackSpec : ChangeSpec := { name := "synthBack", fn := fun _ => fun
  | [d] => { results := [.lit (.bool true)], args := [d] }
  | _ => none }
def synthBackRow : OpenClaim := { program := "ytaalafnkglbcpaa", sum := "a6d79029147bc2ded5ae2aaa61582e9ea913cc4408a99c9d6216cfbf4e8a9ecf", func := "bakelite/bakekeep3.SynthBack", spec := "synthBack", unfollowed := true, recurses := true, plainKeys := false, apart := false }
def SynthBackSaid : Prop := synthBackRow.holds Try.pinned (OpenSpec.ofChange synthBackSpec)

/-- ITS FALSE NEIGHBOUR: 'it returns false'. Refute it at one input. -/
def synthBackWrong : ChangeSpec := { name := "synthBack", fn := fun _ => fun
  | [d] => { results := [.lit (.bool false)], args := [d] }
  | _ => none }
def SynthBackWrongFalsely : Prop := synthBackRow.holds Try.pinned (OpenSpec.ofChange synthBackWrong)

/-- 'bakekeep3.SynthSame': WHATEVER THE INPUT: true; the input reads as it did. -/
def synthSameSpec : ChangeSpec := { name := "synthSame", fn := fun _ => fun
  | [d1, d2] => { results := [.lit (.bool true)], args := [d1, d2] }
  | _ => none }
def synthSameRow : OpenClaim := { program := "ytaalafnkglbcpaa", sum := "a6d79029147bc2ded5ae2aaa61582e9ea913cc4408a99c9d6216cfbf4e8a9ecf", func := "bakelite/bakekeep3.SynthSame", spec := "synthSame", unfollowed := true, recurses := true, plainKeys := false, apart := false }
def SynthSameSaid : Prop := synthSameRow.holds Try.pinned (OpenSpec.ofChange synthSameSpec)

/-- ITS FALSE NEIGHBOUR: 'it returns false'. Refute it at one input. -/
def synthSameWrong : ChangeSpec := { name := "synthSame", fn := fun _ => fun
  | [d1, d2] => { results := [.lit (.bool false)], args := [d1, d2] }
  | _ => none }
def SynthSameWrongFalsely : Prop := synthSameRow.holds Try.pinned (OpenSpec.ofChange synthSameWrong)

/-- 'bakekeep3.EqualProofs': WHATEVER THE INPUT: true; the input reads as it did. -/
def equalProofsSpec : ChangeSpec := { name := "equalProofs", fn := fun _ => fun
  | [d1, d2] => { results := [.lit (.bool true)], args := [d1, d2] }
  | _ => none }
def equalProofsRow : OpenClaim := { program := "ytaalafnkglbcpaa", sum := "a6d79029147bc2ded5ae2aaa61582e9ea913cc4408a99c9d6216cfbf4e8a9ecf", func := "bakelite/bakekeep3.EqualProofs", spec := "equalProofs", unfollowed := true, recurses := true, plainKeys := false, apart := false }
def EqualProofsSaid : Prop := equalProofsRow.holds Try.pinned (OpenSpec.ofChange equalProofsSpec)

/-- ITS FALSE NEIGHBOUR: 'it returns false'. Refute it at one input. -/
def equalProofsWrong : ChangeSpec := { name := "equalProofs", fn := fun _ => fun
  | [d1, d2] => { results := [.lit (.bool false)], args := [d1, d2] }
  | _ => none }
def EqualProofsWrongFalsely : Prop := equalProofsRow.holds Try.pinned (OpenSpec.ofChange equalProofsWrong)

/- THE SECOND FORM. 'bulk': how many values and letters a reading holds, each counted each time it is reached (what is shared counts as often as it is met; a slice's spare places count too). A statement '..UptoSaid' is the law's where the arguments, and the package variables that the reading takes, are together of bulk at most 1048576: NARROWER than '..Said'. Prove '..Said' where nothing that the law and all that it calls make is longer than what came in: it says more and counts as full. Else prove '..UptoSaid'. A law counts once. -/
mutual
def uptoBulk {H : Type} : DataW H → Nat
  | .lit (.string bytes) => bytes.length + 1
  | .lit _ => 1
  | .nil => 1
  | .ptr d => uptoBulk d + 1
  | .slice elems spare => uptoBulkAll elems + uptoBulkAll spare + 1
  | .agg parts => uptoBulkAll parts + 1
  | .iface _ d => uptoBulk d + 1
  | .map entries => uptoBulkEntries entries + 1
  | .held _ => 1
def uptoBulkAll {H : Type} : List (DataW H) → Nat
  | [] => 0
  | d :: r => uptoBulk d + uptoBulkAll r
def uptoBulkEntries {H : Type} : List (Lit × DataW H) → Nat
  | [] => 0
  | x :: r => uptoBulkEntry x + uptoBulkEntries r
def uptoBulkEntry {H : Type} : Lit × DataW H → Nat
  | (.string bytes, d) => bytes.length + uptoBulk d + 1
  | (_, d) => uptoBulk d + 1
 end
def uptoSmall : (H : Type) → List (DataW H) → Bool := fun _ ds => decide (uptoBulkAll ds ≤ 1048576)
def OpenSpec.upto (s : _root_.Go.ChangeSpec) : _root_.Go.OpenSpec := { _root_.Go.OpenSpec.ofChange s with cond := some uptoSmall }

/-- 'bakekeep3.LearnMin', WHERE WHAT IT READS IS OF BULK AT MOST 1048576: true; the input reads as it did. -/
def learnMinUptoRow : OpenClaim := { program := "ytaalafnkglbcpaa", sum := "a6d79029147bc2ded5ae2aaa61582e9ea913cc4408a99c9d6216cfbf4e8a9ecf", func := "bakelite/bakekeep3.LearnMin", spec := "learnMin", unfollowed := true, recurses := true, plainKeys := false, apart := false, narrowed := true }
def LearnMinUptoSaid : Prop := learnMinUptoRow.holds Try.pinned (OpenSpec.upto learnMinSpec)

/-- 'bakekeep3.GateSteps', WHERE WHAT IT READS IS OF BULK AT MOST 1048576: true; the input reads as it did. -/
def gateStepsUptoRow : OpenClaim := { program := "ytaalafnkglbcpaa", sum := "a6d79029147bc2ded5ae2aaa61582e9ea913cc4408a99c9d6216cfbf4e8a9ecf", func := "bakelite/bakekeep3.GateSteps", spec := "gateSteps", plainKeys := false, apart := false, narrowed := true }
def GateStepsUptoSaid : Prop := gateStepsUptoRow.holds Try.pinned (OpenSpec.upto gateStepsSpec)

/-- 'bakekeep3.GateHangs', WHERE WHAT IT READS IS OF BULK AT MOST 1048576: true; the input reads as it did. -/
def gateHangsUptoRow : OpenClaim := { program := "ytaalafnkglbcpaa", sum := "a6d79029147bc2ded5ae2aaa61582e9ea913cc4408a99c9d6216cfbf4e8a9ecf", func := "bakelite/bakekeep3.GateHangs", spec := "gateHangs", unfollowed := true, recurses := true, plainKeys := false, apart := false, narrowed := true }
def GateHangsUptoSaid : Prop := gateHangsUptoRow.holds Try.pinned (OpenSpec.upto gateHangsSpec)

/-- 'bakekeep3.LearnBoxes', WHERE WHAT IT READS IS OF BULK AT MOST 1048576: true; the input reads as it did. -/
def learnBoxesUptoRow : OpenClaim := { program := "ytaalafnkglbcpaa", sum := "a6d79029147bc2ded5ae2aaa61582e9ea913cc4408a99c9d6216cfbf4e8a9ecf", func := "bakelite/bakekeep3.LearnBoxes", spec := "learnBoxes", unfollowed := true, recurses := true, plainKeys := false, apart := false, narrowed := true }
def LearnBoxesUptoSaid : Prop := learnBoxesUptoRow.holds Try.pinned (OpenSpec.upto learnBoxesSpec)

/-- 'bakekeep3.EqualTells', WHERE WHAT IT READS IS OF BULK AT MOST 1048576: true; the input reads as it did. -/
def equalTellsUptoRow : OpenClaim := { program := "ytaalafnkglbcpaa", sum := "a6d79029147bc2ded5ae2aaa61582e9ea913cc4408a99c9d6216cfbf4e8a9ecf", func := "bakelite/bakekeep3.EqualTells", spec := "equalTells", unfollowed := true, recurses := true, plainKeys := false, apart := false, narrowed := true }
def EqualTellsUptoSaid : Prop := equalTellsUptoRow.holds Try.pinned (OpenSpec.upto equalTellsSpec)

/-- 'bakekeep3.SynthBack', WHERE WHAT IT READS IS OF BULK AT MOST 1048576: true; the input reads as it did. -/
def synthBackUptoRow : OpenClaim := { program := "ytaalafnkglbcpaa", sum := "a6d79029147bc2ded5ae2aaa61582e9ea913cc4408a99c9d6216cfbf4e8a9ecf", func := "bakelite/bakekeep3.SynthBack", spec := "synthBack", unfollowed := true, recurses := true, plainKeys := false, apart := false, narrowed := true }
def SynthBackUptoSaid : Prop := synthBackUptoRow.holds Try.pinned (OpenSpec.upto synthBackSpec)

/-- 'bakekeep3.SynthSame', WHERE WHAT IT READS IS OF BULK AT MOST 1048576: true; the input reads as it did. -/
def synthSameUptoRow : OpenClaim := { program := "ytaalafnkglbcpaa", sum := "a6d79029147bc2ded5ae2aaa61582e9ea913cc4408a99c9d6216cfbf4e8a9ecf", func := "bakelite/bakekeep3.SynthSame", spec := "synthSame", unfollowed := true, recurses := true, plainKeys := false, apart := false, narrowed := true }
def SynthSameUptoSaid : Prop := synthSameUptoRow.holds Try.pinned (OpenSpec.upto synthSameSpec)

/-- 'bakekeep3.EqualProofs', WHERE WHAT IT READS IS OF BULK AT MOST 1048576: true; the input reads as it did. -/
def equalProofsUptoRow : OpenClaim := { program := "ytaalafnkglbcpaa", sum := "a6d79029147bc2ded5ae2aaa61582e9ea913cc4408a99c9d6216cfbf4e8a9ecf", func := "bakelite/bakekeep3.EqualProofs", spec := "equalProofs", unfollowed := true, recurses := true, plainKeys := false, apart := false, narrowed := true }
def EqualProofsUptoSaid : Prop := equalProofsUptoRow.holds Try.pinned (OpenSpec.upto equalProofsSpec)

end Rows
end Go.Proofs.Ytaalafnkglbcpaa
