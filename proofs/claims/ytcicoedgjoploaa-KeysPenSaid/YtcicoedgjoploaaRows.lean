/-
  No cell of these rows narrows 'for every input' (looked for: loops, veiled, ifaces, maps, wideKeys, modest, calm, conditions, laid).
  DERIVED. THE GIVEN ROWS OF THIS SEAT. 7 by the template 'for every input the law returns true; each argument reads behind the call as it read before'; 0 by the template 'total and deterministic' (their statements: YtcicoedgjoploaaTotals.lean).
  GIVEN WITH THE SEED: the statements are not yours to turn. If you find one false, say at which input.
  Laid BY PROGRAM, IN A SANDBOX (cutbox-rows.mjs): the forced cells as the released guide's own fill.sh prints them over the translation a2fd15da23a2261e… (all of the seat's roots in one cut). By AI agents, Wed Nov 11 2026. No macro, syntax, notation, axiom, sorry.
-/
import Derived.Test.YtcicoedgjoploaaChecked
import GoSem.Claim
import GoSem.ClaimJoined
import GoSem.ClaimMapViews
import Derived.JoinedTies
import Derived.KernelRfl
namespace Go.Proofs.Ytcicoedgjoploaa
/- THE CELL 'sum', in the pinned program and in every row, IS THE sha256 OF THE DUMP (.gsa) THAT YtcicoedgjoploaaProg.lean LOADS. Nothing in Lean hashes anything: it is a label: what it is worth is what the hold of that sum in a sandbox is worth. -/
noncomputable def Try.pinned : Pinned := { name := "ytcicoedgjoploaa", sum := "a2fd15da23a2261eaf652fdb8427decac68fe151e0997eebae730b843e9c5d44", checked := Try.checked }
namespace Rows
def none {H : Type} : Left H := { results := [], args := [] }

/-- 'bakekeep3.GateHangs': WHATEVER THE INPUT: true; the input reads as it did. -/
def gateHangsSpec : ChangeSpec := { name := "gateHangs", fn := fun _ => fun
  | [d1, d2, d3] => { results := [.lit (.bool true)], args := [d1, d2, d3] }
  | _ => none }
def gateHangsRow : OpenClaim := { program := "ytcicoedgjoploaa", sum := "a2fd15da23a2261eaf652fdb8427decac68fe151e0997eebae730b843e9c5d44", func := "bakelite/bakekeep3.GateHangs", spec := "gateHangs", unfollowed := true, recurses := true, plainKeys := false, apart := false }
def GateHangsSaid : Prop := gateHangsRow.holds Try.pinned (OpenSpec.ofChange gateHangsSpec)

/-- ITS FALSE NEIGHBOUR: 'it returns false'. Refute it at one input. -/
def gateHangsWrong : ChangeSpec := { name := "gateHangs", fn := fun _ => fun
  | [d1, d2, d3] => { results := [.lit (.bool false)], args := [d1, d2, d3] }
  | _ => none }
def GateHangsWrongFalsely : Prop := gateHangsRow.holds Try.pinned (OpenSpec.ofChange gateHangsWrong)

/-- 'bakekeep3.LearnBoxes': WHATEVER THE INPUT: true; the input reads as it did. -/
def learnBoxesSpec : ChangeSpec := { name := "learnBoxes", fn := fun _ => fun
  | [d1, d2] => { results := [.lit (.bool true)], args := [d1, d2] }
  | _ => none }
def learnBoxesRow : OpenClaim := { program := "ytcicoedgjoploaa", sum := "a2fd15da23a2261eaf652fdb8427decac68fe151e0997eebae730b843e9c5d44", func := "bakelite/bakekeep3.LearnBoxes", spec := "learnBoxes", unfollowed := true, recurses := true, plainKeys := false, apart := false }
def LearnBoxesSaid : Prop := learnBoxesRow.holds Try.pinned (OpenSpec.ofChange learnBoxesSpec)

/-- ITS FALSE NEIGHBOUR: 'it returns false'. Refute it at one input. -/
def learnBoxesWrong : ChangeSpec := { name := "learnBoxes", fn := fun _ => fun
  | [d1, d2] => { results := [.lit (.bool false)], args := [d1, d2] }
  | _ => none }
def LearnBoxesWrongFalsely : Prop := learnBoxesRow.holds Try.pinned (OpenSpec.ofChange learnBoxesWrong)

/-- 'bakekeep3.KeysPen': WHATEVER THE INPUT: true; the input reads as it did. -/
def keysPenSpec : ChangeSpec := { name := "keysPen", fn := fun _ => fun
  | [d1, d2, d3, d4] => { results := [.lit (.bool true)], args := [d1, d2, d3, d4] }
  | _ => none }
def keysPenRow : OpenClaim := { program := "ytcicoedgjoploaa", sum := "a2fd15da23a2261eaf652fdb8427decac68fe151e0997eebae730b843e9c5d44", func := "bakelite/bakekeep3.KeysPen", spec := "keysPen", unfollowed := true, recurses := true, plainKeys := false, apart := false }
def KeysPenSaid : Prop := keysPenRow.holds Try.pinned (OpenSpec.ofChange keysPenSpec)

/-- ITS FALSE NEIGHBOUR: 'it returns false'. Refute it at one input. -/
def keysPenWrong : ChangeSpec := { name := "keysPen", fn := fun _ => fun
  | [d1, d2, d3, d4] => { results := [.lit (.bool false)], args := [d1, d2, d3, d4] }
  | _ => none }
def KeysPenWrongFalsely : Prop := keysPenRow.holds Try.pinned (OpenSpec.ofChange keysPenWrong)

/-- 'bakekeep3.EqualTells': WHATEVER THE INPUT: true; the input reads as it did. -/
def equalTellsSpec : ChangeSpec := { name := "equalTells", fn := fun _ => fun
  | [d1, d2, d3] => { results := [.lit (.bool true)], args := [d1, d2, d3] }
  | _ => none }
def equalTellsRow : OpenClaim := { program := "ytcicoedgjoploaa", sum := "a2fd15da23a2261eaf652fdb8427decac68fe151e0997eebae730b843e9c5d44", func := "bakelite/bakekeep3.EqualTells", spec := "equalTells", unfollowed := true, recurses := true, plainKeys := false, apart := false }
def EqualTellsSaid : Prop := equalTellsRow.holds Try.pinned (OpenSpec.ofChange equalTellsSpec)

/-- ITS FALSE NEIGHBOUR: 'it returns false'. Refute it at one input. -/
def equalTellsWrong : ChangeSpec := { name := "equalTells", fn := fun _ => fun
  | [d1, d2, d3] => { results := [.lit (.bool false)], args := [d1, d2, d3] }
  | _ => none }
def EqualTellsWrongFalsely : Prop := equalTellsRow.holds Try.pinned (OpenSpec.ofChange equalTellsWrong)

/-- 'bakekeep3.SynthBack': WHATEVER THE INPUT: true; the input reads as it did. -/
def synthBackSpec : ChangeSpec := { name := "synthBack", fn := fun _ => fun
  | [d] => { results := [.lit (.bool true)], args := [d] }
  | _ => none }
def synthBackRow : OpenClaim := { program := "ytcicoedgjoploaa", sum := "a2fd15da23a2261eaf652fdb8427decac68fe151e0997eebae730b843e9c5d44", func := "bakelite/bakekeep3.SynthBack", spec := "synthBack", unfollowed := true, recurses := true, plainKeys := false, apart := false }
def SynthBackSaid : Prop := synthBackRow.holds Try.pinned (OpenSpec.ofChange synthBackSpec)

/-- ITS FALSE NEIGHBOUR: 'it returns false'. Refute it at one input. -/
def synthBackWrong : ChangeSpec := { name := "synthBack", fn := fun _ => fun
  | [d] => { results := [.lit (.bool false)], args := [d] }
  | _ => none }
def SynthBackWrongFalsely : Prop := synthBackRow.holds Try.pinned (OpenSpec.ofChange synthBackWrong)

/-- 'bakekeep3.MiniNeeds': WHATEVER THE INPUT: true; the input reads as it did. -/
def miniNeedsSpec : ChangeSpec := { name := "miniNeeds", fn := fun _ => fun
  | [d1, d2] => { results := [.lit (.bool true)], args := [d1, d2] }
  | _ => none }
def miniNeedsRow : OpenClaim := { program := "ytcicoedgjoploaa", sum := "a2fd15da23a2261eaf652fdb8427decac68fe151e0997eebae730b843e9c5d44", func := "bakelite/bakekeep3.MiniNeeds", spec := "miniNeeds", unfollowed := true, recurses := true, plainKeys := false, apart := false }
def MiniNeedsSaid : Prop := miniNeedsRow.holds Try.pinned (OpenSpec.ofChange miniNeedsSpec)

/-- ITS FALSE NEIGHBOUR: 'it returns false'. Refute it at one input. -/
def miniNeedsWrong : ChangeSpec := { name := "miniNeeds", fn := fun _ => fun
  | [d1, d2] => { results := [.lit (.bool false)], args := [d1, d2] }
  | _ => none }
def MiniNeedsWrongFalsely : Prop := miniNeedsRow.holds Try.pinned (OpenSpec.ofChange miniNeedsWrong)

/-- 'bakekeep3.SynthSame': WHATEVER THE INPUT: true; the input reads as it did. -/
def synthSameSpec : ChangeSpec := { name := "synthSame", fn := fun _ => fun
  | [d1, d2] => { results := [.lit (.bool true)], args := [d1, d2] }
  | _ => none }
def synthSameRow : OpenClaim := { program := "ytcicoedgjoploaa", sum := "a2fd15da23a2261eaf652fdb8427decac68fe151e0997eebae730b843e9c5d44", func := "bakelite/bakekeep3.SynthSame", spec := "synthSame", unfollowed := true, recurses := true, plainKeys := false, apart := false }
def SynthSameSaid : Prop := synthSameRow.holds Try.pinned (OpenSpec.ofChange synthSameSpec)

/-- ITS FALSE NEIGHBOUR: 'it returns false'. Refute it at one input. -/
def synthSameWrong : ChangeSpec := { name := "synthSame", fn := fun _ => fun
  | [d1, d2] => { results := [.lit (.bool false)], args := [d1, d2] }
  | _ => none }
def SynthSameWrongFalsely : Prop := synthSameRow.holds Try.pinned (OpenSpec.ofChange synthSameWrong)

/- THE SECOND FORM. 'bulk': how many values and letters a reading holds, each counted each time it is reached (what is shared counts as often as it is met; a slice's spare places count too). A statement '..UptoSaid' is the law's where the arguments, and the package variables that the reading takes, are together of bulk at most 1048576: NARROWER than '..Said'. Prove '..Said' where nothing that the law and all that it calls make is longer than what came in: it says more and counts as full. Else prove '..UptoSaid'. A law counts once. -/
mutual
def uptoBulk {H : Type} : DataW H → Nat
  | .lit (.string bytes) => bytes.length + 1
  | .lit _ => 1
  | .nil => 1
  | .ptr d => uptoBulk d + 1
  | .slice elems spare => uptoBulkAll elems + uptoBulkAll spare + 1
  | .agg parts => uptoBulkAll parts + 1
  | .iface _ d => uptoBulk d + 1
  | .map entries => uptoBulkEntries entries + 1
  | .held _ => 1
def uptoBulkAll {H : Type} : List (DataW H) → Nat
  | [] => 0
  | d :: r => uptoBulk d + uptoBulkAll r
def uptoBulkEntries {H : Type} : List (Lit × DataW H) → Nat
  | [] => 0
  | x :: r => uptoBulkEntry x + uptoBulkEntries r
def uptoBulkEntry {H : Type} : Lit × DataW H → Nat
  | (.string bytes, d) => bytes.length + uptoBulk d + 1
  | (_, d) => uptoBulk d + 1
 end
def uptoSmall : (H : Type) → List (DataW H) → Bool := fun _ ds => decide (uptoBulkAll ds ≤ 1048576)
def OpenSpec.upto (s : _root_.Go.ChangeSpec) : _root_.Go.OpenSpec := { _root_.Go.OpenSpec.ofChange s with cond := some uptoSmall }

/-- 'bakekeep3.GateHangs', WHERE WHAT IT READS IS OF BULK AT MOST 1048576: true; the input reads as it did. -/
def gateHangsUptoRow : OpenClaim := { program := "ytcicoedgjoploaa", sum := "a2fd15da23a2261eaf652fdb8427decac68fe151e0997eebae730b843e9c5d44", func := "bakelite/bakekeep3.GateHangs", spec := "gateHangs", unfollowed := true, recurses := true, plainKeys := false, apart := false, narrowed := true }
def GateHangsUptoSaid : Prop := gateHangsUptoRow.holds Try.pinned (OpenSpec.upto gateHangsSpec)

/-- 'bakekeep3.LearnBoxes', WHERE WHAT IT READS IS OF BULK AT MOST 1048576: true; the input reads as it did. -/
def learnBoxesUptoRow : OpenClaim := { program := "ytcicoedgjoploaa", sum := "a2fd15da23a2261eaf652fdb8427decac68fe151e0997eebae730b843e9c5d44", func := "bakelite/bakekeep3.LearnBoxes", spec := "learnBoxes", unfollowed := true, recurses := true, plainKeys := false, apart := false, narrowed := true }
def LearnBoxesUptoSaid : Prop := learnBoxesUptoRow.holds Try.pinned (OpenSpec.upto learnBoxesSpec)

/-- 'bakekeep3.KeysPen', WHERE WHAT IT READS IS OF BULK AT MOST 1048576: true; the input reads as it did. -/
def keysPenUptoRow : OpenClaim := { program := "ytcicoedgjoploaa", sum := "a2fd15da23a2261eaf652fdb8427decac68fe151e0997eebae730b843e9c5d44", func := "bakelite/bakekeep3.KeysPen", spec := "keysPen", unfollowed := true, recurses := true, plainKeys := false, apart := false, narrowed := true }
def KeysPenUptoSaid : Prop := keysPenUptoRow.holds Try.pinned (OpenSpec.upto keysPenSpec)

/-- 'bakekeep3.EqualTells', WHERE WHAT IT READS IS OF BULK AT MOST 1048576: true; the input reads as it did. -/
def equalTellsUptoRow : OpenClaim := { program := "ytcicoedgjoploaa", sum := "a2fd15da23a2261eaf652fdb8427decac68fe151e0997eebae730b843e9c5d44", func := "bakelite/bakekeep3.EqualTells", spec := "equalTells", unfollowed := true, recurses := true, plainKeys := false, apart := false, narrowed := true }
def EqualTellsUptoSaid : Prop := equalTellsUptoRow.holds Try.pinned (OpenSpec.upto equalTellsSpec)

/-- 'bakekeep3.SynthBack', WHERE WHAT IT READS IS OF BULK AT MOST 1048576: true; the input reads as it did. -/
def synthBackUptoRow : OpenClaim := { program := "ytcicoedgjoploaa", sum := "a2fd15da23a2261eaf652fdb8427decac68fe151e0997eebae730b843e9c5d44", func := "bakelite/bakekeep3.SynthBack", spec := "synthBack", unfollowed := true, recurses := true, plainKeys := false, apart := false, narrowed := true }
def SynthBackUptoSaid : Prop := synthBackUptoRow.holds Try.pinned (OpenSpec.upto synthBackSpec)

/-- 'bakekeep3.MiniNeeds', WHERE WHAT IT READS IS OF BULK AT MOST 1048576: true; the input reads as it did. -/
def miniNeedsUptoRow : OpenClaim := { program := "ytcicoedgjoploaa", sum := "a2fd15da23a2261eaf652fdb8427decac68fe151e0997eebae730b843e9c5d44", func := "bakelite/bakekeep3.MiniNeeds", spec := "miniNeeds", unfollowed := true, recurses := true, plainKeys := false, apart := false, narrowed := true }
def MiniNeedsUptoSaid : Prop := miniNeedsUptoRow.holds Try.pinned (OpenSpec.upto miniNeedsSpec)

/-- 'bakekeep3.SynthSame', WHERE WHAT IT READS IS OF BULK AT MOST 1048576: true; the input reads as it did. -/
def synthSameUptoRow : OpenClaim := { program := "ytcicoedgjoploaa", sum := "a2fd15da23a2261eaf652fdb8427decac68fe151e0997eebae730b843e9c5d44", func := "bakelite/bakekeep3.SynthSame", spec := "synthSame", unfollowed := true, recurses := true, plainKeys := false, apart := false, narrowed := true }
def SynthSameUptoSaid : Prop := synthSameUptoRow.holds Try.pinned (OpenSpec.upto synthSameSpec)

end Rows
end Go.Proofs.Ytcicoedgjoploaa
