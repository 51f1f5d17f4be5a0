/-
  No cell of these rows narrows 'for every input' (looked for: loops, veiled, ifaces, maps, wideKeys, modest, calm, conditions, laid).
  DERIVED. THE GIVEN ROWS OF THIS SEAT. 7 by the template 'for every input the law returns true; each argument reads behind the call as it read before'; 0 by the template 'total and deterministic' (their statements: YthlmcfbadhidbaaGreatTotals.lean).
  GIVEN WITH THE SEED: the statements are not yours to turn. If you find one false, say at which input.
  Laid BY PROGRAM, IN A SANDBOX (cutbox-rows.mjs): the forced cells as the released guide's own fill.sh prints them over the translation 54206eb42c2be614… (all of the seat's roots in one cut). By AI agents, Wed Nov 11 2026. No macro, syntax, notation, axiom, sorry.
-/
import Derived.Test.YthlmcfbadhidbaaGreatChecked
import GoSem.Claim
import GoSem.ClaimJoined
import GoSem.ClaimMapViews
import Derived.JoinedTies
import Derived.KernelRfl
namespace Go.Proofs.YthlmcfbadhidbaaGreat
/- THE CELL 'sum', in the pinned program and in every row, IS THE sha256 OF THE DUMP (.gsa) THAT YthlmcfbadhidbaaGreatProg.lean LOADS. Nothing in Lean hashes anything: it is a label: what it is worth is what the hold of that sum in a sandbox is worth. -/
noncomputable def Tryz.pinned : Pinned := { name := "ythlmcfbadhidbaagreat", sum := "54206eb42c2be6141ff1dcf93f4ef33a56d90d0b0ebe7829649e0930599d7829", checked := Tryz.checked }
namespace Rows
def none {H : Type} : Left H := { results := [], args := [] }

/-- 'waysidelaw11.OrderTells': WHATEVER THE INPUT: true; the input reads as it did. -/
def orderTellsSpec : ChangeSpec := { name := "orderTells", fn := fun _ => fun
  | [d1, d2, d3, d4] => { results := [.lit (.bool true)], args := [d1, d2, d3, d4] }
  | _ => none }
def orderTellsRow : OpenClaim := { program := "ythlmcfbadhidbaagreat", sum := "54206eb42c2be6141ff1dcf93f4ef33a56d90d0b0ebe7829649e0930599d7829", func := "wayside/waysidelaw11.OrderTells", spec := "orderTells", inPlace := ["internal/bytealg.abigen_runtime_cmpstring"], unfollowed := true, recurses := true, apart := false }
def OrderTellsSaid : Prop := orderTellsRow.holds Tryz.pinned (OpenSpec.ofChange orderTellsSpec)

/-- ITS FALSE NEIGHBOUR: 'it returns false'. Refute it at one input. -/
def orderTellsWrong : ChangeSpec := { name := "orderTells", fn := fun _ => fun
  | [d1, d2, d3, d4] => { results := [.lit (.bool false)], args := [d1, d2, d3, d4] }
  | _ => none }
def OrderTellsWrongFalsely : Prop := orderTellsRow.holds Tryz.pinned (OpenSpec.ofChange orderTellsWrong)

/-- 'waysidelaw12.LabelBuilds': WHATEVER THE INPUT: true; the input reads as it did. -/
def labelBuildsSpec : ChangeSpec := { name := "labelBuilds", fn := fun _ => fun
  | [d] => { results := [.lit (.bool true)], args := [d] }
  | _ => none }
def labelBuildsRow : OpenClaim := { program := "ythlmcfbadhidbaagreat", sum := "54206eb42c2be6141ff1dcf93f4ef33a56d90d0b0ebe7829649e0930599d7829", func := "wayside/waysidelaw12.LabelBuilds", spec := "labelBuilds", inPlace := ["internal/bytealg.abigen_runtime_cmpstring"], unfollowed := true, recurses := true, apart := false }
def LabelBuildsSaid : Prop := labelBuildsRow.holds Tryz.pinned (OpenSpec.ofChange labelBuildsSpec)

/-- ITS FALSE NEIGHBOUR: 'it returns false'. Refute it at one input. -/
def labelBuildsWrong : ChangeSpec := { name := "labelBuilds", fn := fun _ => fun
  | [d] => { results := [.lit (.bool false)], args := [d] }
  | _ => none }
def LabelBuildsWrongFalsely : Prop := labelBuildsRow.holds Tryz.pinned (OpenSpec.ofChange labelBuildsWrong)

/-- 'waysidelaw12.LabelTells': WHATEVER THE INPUT: true; the input reads as it did. -/
def labelTellsSpec : ChangeSpec := { name := "labelTells", fn := fun _ => fun
  | [d1, d2, d3] => { results := [.lit (.bool true)], args := [d1, d2, d3] }
  | _ => none }
def labelTellsRow : OpenClaim := { program := "ythlmcfbadhidbaagreat", sum := "54206eb42c2be6141ff1dcf93f4ef33a56d90d0b0ebe7829649e0930599d7829", func := "wayside/waysidelaw12.LabelTells", spec := "labelTells", inPlace := ["internal/bytealg.abigen_runtime_cmpstring"], unfollowed := true, recurses := true, apart := false }
def LabelTellsSaid : Prop := labelTellsRow.holds Tryz.pinned (OpenSpec.ofChange labelTellsSpec)

/-- ITS FALSE NEIGHBOUR: 'it returns false'. Refute it at one input. -/
def labelTellsWrong : ChangeSpec := { name := "labelTells", fn := fun _ => fun
  | [d1, d2, d3] => { results := [.lit (.bool false)], args := [d1, d2, d3] }
  | _ => none }
def LabelTellsWrongFalsely : Prop := labelTellsRow.holds Tryz.pinned (OpenSpec.ofChange labelTellsWrong)

/-- 'waysidelaw12.LabelNeeded': WHATEVER THE INPUT: true; the input reads as it did. -/
def labelNeededSpec : ChangeSpec := { name := "labelNeeded", fn := fun _ => fun
  | [d1, d2, d3] => { results := [.lit (.bool true)], args := [d1, d2, d3] }
  | _ => none }
def labelNeededRow : OpenClaim := { program := "ythlmcfbadhidbaagreat", sum := "54206eb42c2be6141ff1dcf93f4ef33a56d90d0b0ebe7829649e0930599d7829", func := "wayside/waysidelaw12.LabelNeeded", spec := "labelNeeded", inPlace := ["internal/bytealg.abigen_runtime_cmpstring"], unfollowed := true, recurses := true, apart := false }
def LabelNeededSaid : Prop := labelNeededRow.holds Tryz.pinned (OpenSpec.ofChange labelNeededSpec)

/-- ITS FALSE NEIGHBOUR: 'it returns false'. Refute it at one input. -/
def labelNeededWrong : ChangeSpec := { name := "labelNeeded", fn := fun _ => fun
  | [d1, d2, d3] => { results := [.lit (.bool false)], args := [d1, d2, d3] }
  | _ => none }
def LabelNeededWrongFalsely : Prop := labelNeededRow.holds Tryz.pinned (OpenSpec.ofChange labelNeededWrong)

/-- 'waysidelaw12.LabelTurned': WHATEVER THE INPUT: true; the input reads as it did. -/
def labelTurnedSpec : ChangeSpec := { name := "labelTurned", fn := fun _ => fun
  | [d1, d2, d3] => { results := [.lit (.bool true)], args := [d1, d2, d3] }
  | _ => none }
def labelTurnedRow : OpenClaim := { program := "ythlmcfbadhidbaagreat", sum := "54206eb42c2be6141ff1dcf93f4ef33a56d90d0b0ebe7829649e0930599d7829", func := "wayside/waysidelaw12.LabelTurned", spec := "labelTurned", inPlace := ["internal/bytealg.abigen_runtime_cmpstring"], unfollowed := true, recurses := true, apart := false }
def LabelTurnedSaid : Prop := labelTurnedRow.holds Tryz.pinned (OpenSpec.ofChange labelTurnedSpec)

/-- ITS FALSE NEIGHBOUR: 'it returns false'. Refute it at one input. -/
def labelTurnedWrong : ChangeSpec := { name := "labelTurned", fn := fun _ => fun
  | [d1, d2, d3] => { results := [.lit (.bool false)], args := [d1, d2, d3] }
  | _ => none }
def LabelTurnedWrongFalsely : Prop := labelTurnedRow.holds Tryz.pinned (OpenSpec.ofChange labelTurnedWrong)

/-- 'waysidelaw12.LabelDist': WHATEVER THE INPUT: true; the input reads as it did. -/
def labelDistSpec : ChangeSpec := { name := "labelDist", fn := fun _ => fun
  | [d] => { results := [.lit (.bool true)], args := [d] }
  | _ => none }
def labelDistRow : OpenClaim := { program := "ythlmcfbadhidbaagreat", sum := "54206eb42c2be6141ff1dcf93f4ef33a56d90d0b0ebe7829649e0930599d7829", func := "wayside/waysidelaw12.LabelDist", spec := "labelDist", inPlace := ["internal/bytealg.abigen_runtime_cmpstring"], unfollowed := true, recurses := true, apart := false }
def LabelDistSaid : Prop := labelDistRow.holds Tryz.pinned (OpenSpec.ofChange labelDistSpec)

/-- ITS FALSE NEIGHBOUR: 'it returns false'. Refute it at one input. -/
def labelDistWrong : ChangeSpec := { name := "labelDist", fn := fun _ => fun
  | [d] => { results := [.lit (.bool false)], args := [d] }
  | _ => none }
def LabelDistWrongFalsely : Prop := labelDistRow.holds Tryz.pinned (OpenSpec.ofChange labelDistWrong)

/-- 'waysidelaw12.LabelSelf': WHATEVER THE INPUT: true; the input reads as it did. -/
def labelSelfSpec : ChangeSpec := { name := "labelSelf", fn := fun _ => fun
  | [d] => { results := [.lit (.bool true)], args := [d] }
  | _ => none }
def labelSelfRow : OpenClaim := { program := "ythlmcfbadhidbaagreat", sum := "54206eb42c2be6141ff1dcf93f4ef33a56d90d0b0ebe7829649e0930599d7829", func := "wayside/waysidelaw12.LabelSelf", spec := "labelSelf", inPlace := ["internal/bytealg.abigen_runtime_cmpstring"], unfollowed := true, recurses := true, apart := false }
def LabelSelfSaid : Prop := labelSelfRow.holds Tryz.pinned (OpenSpec.ofChange labelSelfSpec)

/-- ITS FALSE NEIGHBOUR: 'it returns false'. Refute it at one input. -/
def labelSelfWrong : ChangeSpec := { name := "labelSelf", fn := fun _ => fun
  | [d] => { results := [.lit (.bool false)], args := [d] }
  | _ => none }
def LabelSelfWrongFalsely : Prop := labelSelfRow.holds Tryz.pinned (OpenSpec.ofChange labelSelfWrong)

/- THE SECOND FORM. 'bulk': how many values and letters a reading holds, each counted each time it is reached (what is shared counts as often as it is met; a slice's spare places count too). A statement '..UptoSaid' is the law's where the arguments, and the package variables that the reading takes, are together of bulk at most 1048576: NARROWER than '..Said'. Prove '..Said' where nothing that the law and all that it calls make is longer than what came in: it says more and counts as full. Else prove '..UptoSaid'. A law counts once. -/
mutual
def uptoBulk {H : Type} : DataW H → Nat
  | .lit (.string bytes) => bytes.length + 1
  | .lit _ => 1
  | .nil => 1
  | .ptr d => uptoBulk d + 1
  | .slice elems spare => uptoBulkAll elems + uptoBulkAll spare + 1
  | .agg parts => uptoBulkAll parts + 1
  | .iface _ d => uptoBulk d + 1
  | .map entries => uptoBulkEntries entries + 1
  | .held _ => 1
def uptoBulkAll {H : Type} : List (DataW H) → Nat
  | [] => 0
  | d :: r => uptoBulk d + uptoBulkAll r
def uptoBulkEntries {H : Type} : List (Lit × DataW H) → Nat
  | [] => 0
  | x :: r => uptoBulkEntry x + uptoBulkEntries r
def uptoBulkEntry {H : Type} : Lit × DataW H → Nat
  | (.string bytes, d) => bytes.length + uptoBulk d + 1
  | (_, d) => uptoBulk d + 1
 end
def uptoSmall : (H : Type) → List (DataW H) → Bool := fun _ ds => decide (uptoBulkAll ds ≤ 1048576)
def OpenSpec.upto (s : _root_.Go.ChangeSpec) : _root_.Go.OpenSpec := { _root_.Go.OpenSpec.ofChange s with cond := some uptoSmall }

/-- 'waysidelaw11.OrderTells', WHERE WHAT IT READS IS OF BULK AT MOST 1048576: true; the input reads as it did. -/
def orderTellsUptoRow : OpenClaim := { program := "ythlmcfbadhidbaagreat", sum := "54206eb42c2be6141ff1dcf93f4ef33a56d90d0b0ebe7829649e0930599d7829", func := "wayside/waysidelaw11.OrderTells", spec := "orderTells", inPlace := ["internal/bytealg.abigen_runtime_cmpstring"], unfollowed := true, recurses := true, apart := false, narrowed := true }
def OrderTellsUptoSaid : Prop := orderTellsUptoRow.holds Tryz.pinned (OpenSpec.upto orderTellsSpec)

/-- 'waysidelaw12.LabelBuilds', WHERE WHAT IT READS IS OF BULK AT MOST 1048576: true; the input reads as it did. -/
def labelBuildsUptoRow : OpenClaim := { program := "ythlmcfbadhidbaagreat", sum := "54206eb42c2be6141ff1dcf93f4ef33a56d90d0b0ebe7829649e0930599d7829", func := "wayside/waysidelaw12.LabelBuilds", spec := "labelBuilds", inPlace := ["internal/bytealg.abigen_runtime_cmpstring"], unfollowed := true, recurses := true, apart := false, narrowed := true }
def LabelBuildsUptoSaid : Prop := labelBuildsUptoRow.holds Tryz.pinned (OpenSpec.upto labelBuildsSpec)

/-- 'waysidelaw12.LabelTells', WHERE WHAT IT READS IS OF BULK AT MOST 1048576: true; the input reads as it did. -/
def labelTellsUptoRow : OpenClaim := { program := "ythlmcfbadhidbaagreat", sum := "54206eb42c2be6141ff1dcf93f4ef33a56d90d0b0ebe7829649e0930599d7829", func := "wayside/waysidelaw12.LabelTells", spec := "labelTells", inPlace := ["internal/bytealg.abigen_runtime_cmpstring"], unfollowed := true, recurses := true, apart := false, narrowed := true }
def LabelTellsUptoSaid : Prop := labelTellsUptoRow.holds Tryz.pinned (OpenSpec.upto labelTellsSpec)

/-- 'waysidelaw12.LabelNeeded', WHERE WHAT IT READS IS OF BULK AT MOST 1048576: true; the input reads as it did. -/
def labelNeededUptoRow : OpenClaim := { program := "ythlmcfbadhidbaagreat", sum := "54206eb42c2be6141ff1dcf93f4ef33a56d90d0b0ebe7829649e0930599d7829", func := "wayside/waysidelaw12.LabelNeeded", spec := "labelNeeded", inPlace := ["internal/bytealg.abigen_runtime_cmpstring"], unfollowed := true, recurses := true, apart := false, narrowed := true }
def LabelNeededUptoSaid : Prop := labelNeededUptoRow.holds Tryz.pinned (OpenSpec.upto labelNeededSpec)

/-- 'waysidelaw12.LabelTurned', WHERE WHAT IT READS IS OF BULK AT MOST 1048576: true; the input reads as it did. -/
def labelTurnedUptoRow : OpenClaim := { program := "ythlmcfbadhidbaagreat", sum := "54206eb42c2be6141ff1dcf93f4ef33a56d90d0b0ebe7829649e0930599d7829", func := "wayside/waysidelaw12.LabelTurned", spec := "labelTurned", inPlace := ["internal/bytealg.abigen_runtime_cmpstring"], unfollowed := true, recurses := true, apart := false, narrowed := true }
def LabelTurnedUptoSaid : Prop := labelTurnedUptoRow.holds Tryz.pinned (OpenSpec.upto labelTurnedSpec)

/-- 'waysidelaw12.LabelDist', WHERE WHAT IT READS IS OF BULK AT MOST 1048576: true; the input reads as it did. -/
def labelDistUptoRow : OpenClaim := { program := "ythlmcfbadhidbaagreat", sum := "54206eb42c2be6141ff1dcf93f4ef33a56d90d0b0ebe7829649e0930599d7829", func := "wayside/waysidelaw12.LabelDist", spec := "labelDist", inPlace := ["internal/bytealg.abigen_runtime_cmpstring"], unfollowed := true, recurses := true, apart := false, narrowed := true }
def LabelDistUptoSaid : Prop := labelDistUptoRow.holds Tryz.pinned (OpenSpec.upto labelDistSpec)

/-- 'waysidelaw12.LabelSelf', WHERE WHAT IT READS IS OF BULK AT MOST 1048576: true; the input reads as it did. -/
def labelSelfUptoRow : OpenClaim := { program := "ythlmcfbadhidbaagreat", sum := "54206eb42c2be6141ff1dcf93f4ef33a56d90d0b0ebe7829649e0930599d7829", func := "wayside/waysidelaw12.LabelSelf", spec := "labelSelf", inPlace := ["internal/bytealg.abigen_runtime_cmpstring"], unfollowed := true, recurses := true, apart := false, narrowed := true }
def LabelSelfUptoSaid : Prop := labelSelfUptoRow.holds Tryz.pinned (OpenSpec.upto labelSelfSpec)

end Rows
end Go.Proofs.YthlmcfbadhidbaaGreat
