/-
  No cell of these rows narrows 'for every input' (looked for: loops, veiled, ifaces, maps, wideKeys, modest, calm, conditions, laid).
  DERIVED. THE GIVEN ROWS OF THIS SEAT. 5 by the template 'for every input the law returns true; each argument reads behind the call as it read before'; 0 by the template 'total and deterministic' (their statements: YtlkngeflikecgaaTotals.lean).
  GIVEN WITH THE SEED: the statements are not yours to turn. If you find one false, say at which input.
  Laid BY PROGRAM, IN A SANDBOX (cutbox-rows.mjs): the forced cells as the released guide's own fill.sh prints them over the translation 66251f198e232561… (all of the seat's roots in one cut). By AI agents, Wed Nov 11 2026. No macro, syntax, notation, axiom, sorry.
-/
import Derived.Test.YtlkngeflikecgaaChecked
import GoSem.Claim
import GoSem.ClaimJoined
import GoSem.ClaimMapViews
import Derived.JoinedTies
import Derived.KernelRfl
namespace Go.Proofs.Ytlkngeflikecgaa
/- THE CELL 'sum', in the pinned program and in every row, IS THE sha256 OF THE DUMP (.gsa) THAT YtlkngeflikecgaaProg.lean LOADS. Nothing in Lean hashes anything: it is a label: what it is worth is what the hold of that sum in a sandbox is worth. -/
noncomputable def Try.pinned : Pinned := { name := "ytlkngeflikecgaa", sum := "66251f198e232561052bd2d2fc4d1757da92f58162597c4f273de80e54801e21", checked := Try.checked }
namespace Rows
def none {H : Type} : Left H := { results := [], args := [] }

/-- 'waysidelaw02.GraphNormal': WHATEVER THE INPUT: true; the input reads as it did. -/
def graphNormalSpec : ChangeSpec := { name := "graphNormal", fn := fun _ => fun
  | [d1, d2] => { results := [.lit (.bool true)], args := [d1, d2] }
  | _ => none }
def graphNormalRow : OpenClaim := { program := "ytlkngeflikecgaa", sum := "66251f198e232561052bd2d2fc4d1757da92f58162597c4f273de80e54801e21", func := "wayside/waysidelaw02.GraphNormal", spec := "graphNormal", inPlace := ["internal/bytealg.abigen_runtime_cmpstring"], unfollowed := true, recurses := true, apart := false }
def GraphNormalSaid : Prop := graphNormalRow.holds Try.pinned (OpenSpec.ofChange graphNormalSpec)

/-- ITS FALSE NEIGHBOUR: 'it returns false'. Refute it at one input. -/
def graphNormalWrong : ChangeSpec := { name := "graphNormal", fn := fun _ => fun
  | [d1, d2] => { results := [.lit (.bool false)], args := [d1, d2] }
  | _ => none }
def GraphNormalWrongFalsely : Prop := graphNormalRow.holds Try.pinned (OpenSpec.ofChange graphNormalWrong)

/-- 'waysidelaw02.GraphOrder': WHATEVER THE INPUT: true; the input reads as it did. -/
def graphOrderSpec : ChangeSpec := { name := "graphOrder", fn := fun _ => fun
  | [d1, d2] => { results := [.lit (.bool true)], args := [d1, d2] }
  | _ => none }
def graphOrderRow : OpenClaim := { program := "ytlkngeflikecgaa", sum := "66251f198e232561052bd2d2fc4d1757da92f58162597c4f273de80e54801e21", func := "wayside/waysidelaw02.GraphOrder", spec := "graphOrder", inPlace := ["internal/bytealg.abigen_runtime_cmpstring"], unfollowed := true, recurses := true, apart := false }
def GraphOrderSaid : Prop := graphOrderRow.holds Try.pinned (OpenSpec.ofChange graphOrderSpec)

/-- ITS FALSE NEIGHBOUR: 'it returns false'. Refute it at one input. -/
def graphOrderWrong : ChangeSpec := { name := "graphOrder", fn := fun _ => fun
  | [d1, d2] => { results := [.lit (.bool false)], args := [d1, d2] }
  | _ => none }
def GraphOrderWrongFalsely : Prop := graphOrderRow.holds Try.pinned (OpenSpec.ofChange graphOrderWrong)

/-- 'waysidelaw02.GraphSums': WHATEVER THE INPUT: true; the input reads as it did. -/
def graphSumsSpec : ChangeSpec := { name := "graphSums", fn := fun _ => fun
  | [d] => { results := [.lit (.bool true)], args := [d] }
  | _ => none }
def graphSumsRow : OpenClaim := { program := "ytlkngeflikecgaa", sum := "66251f198e232561052bd2d2fc4d1757da92f58162597c4f273de80e54801e21", func := "wayside/waysidelaw02.GraphSums", spec := "graphSums", inPlace := ["internal/bytealg.abigen_runtime_cmpstring"], unfollowed := true, recurses := true, apart := false }
def GraphSumsSaid : Prop := graphSumsRow.holds Try.pinned (OpenSpec.ofChange graphSumsSpec)

/-- ITS FALSE NEIGHBOUR: 'it returns false'. Refute it at one input. -/
def graphSumsWrong : ChangeSpec := { name := "graphSums", fn := fun _ => fun
  | [d] => { results := [.lit (.bool false)], args := [d] }
  | _ => none }
def GraphSumsWrongFalsely : Prop := graphSumsRow.holds Try.pinned (OpenSpec.ofChange graphSumsWrong)

/-- 'waysidelaw02.GraphTurns': WHATEVER THE INPUT: true; the input reads as it did. -/
def graphTurnsSpec : ChangeSpec := { name := "graphTurns", fn := fun _ => fun
  | [d1, d2] => { results := [.lit (.bool true)], args := [d1, d2] }
  | _ => none }
def graphTurnsRow : OpenClaim := { program := "ytlkngeflikecgaa", sum := "66251f198e232561052bd2d2fc4d1757da92f58162597c4f273de80e54801e21", func := "wayside/waysidelaw02.GraphTurns", spec := "graphTurns", inPlace := ["internal/bytealg.abigen_runtime_cmpstring"], unfollowed := true, recurses := true, apart := false }
def GraphTurnsSaid : Prop := graphTurnsRow.holds Try.pinned (OpenSpec.ofChange graphTurnsSpec)

/-- ITS FALSE NEIGHBOUR: 'it returns false'. Refute it at one input. -/
def graphTurnsWrong : ChangeSpec := { name := "graphTurns", fn := fun _ => fun
  | [d1, d2] => { results := [.lit (.bool false)], args := [d1, d2] }
  | _ => none }
def GraphTurnsWrongFalsely : Prop := graphTurnsRow.holds Try.pinned (OpenSpec.ofChange graphTurnsWrong)

/-- 'waysidelaw02.GraphTwice': WHATEVER THE INPUT: true; the input reads as it did. -/
def graphTwiceSpec : ChangeSpec := { name := "graphTwice", fn := fun _ => fun
  | [d] => { results := [.lit (.bool true)], args := [d] }
  | _ => none }
def graphTwiceRow : OpenClaim := { program := "ytlkngeflikecgaa", sum := "66251f198e232561052bd2d2fc4d1757da92f58162597c4f273de80e54801e21", func := "wayside/waysidelaw02.GraphTwice", spec := "graphTwice", inPlace := ["internal/bytealg.abigen_runtime_cmpstring"], unfollowed := true, recurses := true, apart := false }
def GraphTwiceSaid : Prop := graphTwiceRow.holds Try.pinned (OpenSpec.ofChange graphTwiceSpec)

/-- ITS FALSE NEIGHBOUR: 'it returns false'. Refute it at one input. -/
def graphTwiceWrong : ChangeSpec := { name := "graphTwice", fn := fun _ => fun
  | [d] => { results := [.lit (.bool false)], args := [d] }
  | _ => none }
def GraphTwiceWrongFalsely : Prop := graphTwiceRow.holds Try.pinned (OpenSpec.ofChange graphTwiceWrong)

/- THE SECOND FORM. 'bulk': how many values and letters a reading holds, each counted each time it is reached (what is shared counts as often as it is met; a slice's spare places count too). A statement '..UptoSaid' is the law's where the arguments, and the package variables that the reading takes, are together of bulk at most 1048576: NARROWER than '..Said'. Prove '..Said' where nothing that the law and all that it calls make is longer than what came in: it says more and counts as full. Else prove '..UptoSaid'. A law counts once. -/
mutual
def uptoBulk {H : Type} : DataW H → Nat
  | .lit (.string bytes) => bytes.length + 1
  | .lit _ => 1
  | .nil => 1
  | .ptr d => uptoBulk d + 1
  | .slice elems spare => uptoBulkAll elems + uptoBulkAll spare + 1
  | .agg parts => uptoBulkAll parts + 1
  | .iface _ d => uptoBulk d + 1
  | .map entries => uptoBulkEntries entries + 1
  | .held _ => 1
def uptoBulkAll {H : Type} : List (DataW H) → Nat
  | [] => 0
  | d :: r => uptoBulk d + uptoBulkAll r
def uptoBulkEntries {H : Type} : List (Lit × DataW H) → Nat
  | [] => 0
  | x :: r => uptoBulkEntry x + uptoBulkEntries r
def uptoBulkEntry {H : Type} : Lit × DataW H → Nat
  | (.string bytes, d) => bytes.length + uptoBulk d + 1
  | (_, d) => uptoBulk d + 1
 end
def uptoSmall : (H : Type) → List (DataW H) → Bool := fun _ ds => decide (uptoBulkAll ds ≤ 1048576)
def OpenSpec.upto (s : _root_.Go.ChangeSpec) : _root_.Go.OpenSpec := { _root_.Go.OpenSpec.ofChange s with cond := some uptoSmall }

/-- 'waysidelaw02.GraphNormal', WHERE WHAT IT READS IS OF BULK AT MOST 1048576: true; the input reads as it did. -/
def graphNormalUptoRow : OpenClaim := { program := "ytlkngeflikecgaa", sum := "66251f198e232561052bd2d2fc4d1757da92f58162597c4f273de80e54801e21", func := "wayside/waysidelaw02.GraphNormal", spec := "graphNormal", inPlace := ["internal/bytealg.abigen_runtime_cmpstring"], unfollowed := true, recurses := true, apart := false, narrowed := true }
def GraphNormalUptoSaid : Prop := graphNormalUptoRow.holds Try.pinned (OpenSpec.upto graphNormalSpec)

/-- 'waysidelaw02.GraphOrder', WHERE WHAT IT READS IS OF BULK AT MOST 1048576: true; the input reads as it did. -/
def graphOrderUptoRow : OpenClaim := { program := "ytlkngeflikecgaa", sum := "66251f198e232561052bd2d2fc4d1757da92f58162597c4f273de80e54801e21", func := "wayside/waysidelaw02.GraphOrder", spec := "graphOrder", inPlace := ["internal/bytealg.abigen_runtime_cmpstring"], unfollowed := true, recurses := true, apart := false, narrowed := true }
def GraphOrderUptoSaid : Prop := graphOrderUptoRow.holds Try.pinned (OpenSpec.upto graphOrderSpec)

/-- 'waysidelaw02.GraphSums', WHERE WHAT IT READS IS OF BULK AT MOST 1048576: true; the input reads as it did. -/
def graphSumsUptoRow : OpenClaim := { program := "ytlkngeflikecgaa", sum := "66251f198e232561052bd2d2fc4d1757da92f58162597c4f273de80e54801e21", func := "wayside/waysidelaw02.GraphSums", spec := "graphSums", inPlace := ["internal/bytealg.abigen_runtime_cmpstring"], unfollowed := true, recurses := true, apart := false, narrowed := true }
def GraphSumsUptoSaid : Prop := graphSumsUptoRow.holds Try.pinned (OpenSpec.upto graphSumsSpec)

/-- 'waysidelaw02.GraphTurns', WHERE WHAT IT READS IS OF BULK AT MOST 1048576: true; the input reads as it did. -/
def graphTurnsUptoRow : OpenClaim := { program := "ytlkngeflikecgaa", sum := "66251f198e232561052bd2d2fc4d1757da92f58162597c4f273de80e54801e21", func := "wayside/waysidelaw02.GraphTurns", spec := "graphTurns", inPlace := ["internal/bytealg.abigen_runtime_cmpstring"], unfollowed := true, recurses := true, apart := false, narrowed := true }
def GraphTurnsUptoSaid : Prop := graphTurnsUptoRow.holds Try.pinned (OpenSpec.upto graphTurnsSpec)

/-- 'waysidelaw02.GraphTwice', WHERE WHAT IT READS IS OF BULK AT MOST 1048576: true; the input reads as it did. -/
def graphTwiceUptoRow : OpenClaim := { program := "ytlkngeflikecgaa", sum := "66251f198e232561052bd2d2fc4d1757da92f58162597c4f273de80e54801e21", func := "wayside/waysidelaw02.GraphTwice", spec := "graphTwice", inPlace := ["internal/bytealg.abigen_runtime_cmpstring"], unfollowed := true, recurses := true, apart := false, narrowed := true }
def GraphTwiceUptoSaid : Prop := graphTwiceUptoRow.holds Try.pinned (OpenSpec.upto graphTwiceSpec)

end Rows
end Go.Proofs.Ytlkngeflikecgaa
