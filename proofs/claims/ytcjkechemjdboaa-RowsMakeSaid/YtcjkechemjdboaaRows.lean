/-
  No cell of these rows narrows 'for every input' (looked for: loops, veiled, ifaces, maps, wideKeys, modest, calm, conditions, laid).
  DERIVED. THE GIVEN ROWS OF THIS SEAT. 10 by the template 'for every input the law returns true; each argument reads behind the call as it read before'; 0 by the template 'total and deterministic' (their statements: YtcjkechemjdboaaTotals.lean).
  GIVEN WITH THE SEED: the statements are not yours to turn. If you find one false, say at which input.
  Laid BY PROGRAM, IN A SANDBOX (cutbox-rows.mjs): the forced cells as the released guide's own fill.sh prints them over the translation c009b6788ab1a560… (all of the seat's roots in one cut). By AI agents, Wed Nov 11 2026. No macro, syntax, notation, axiom, sorry.
-/
import Derived.Test.YtcjkechemjdboaaChecked
import GoSem.Claim
import GoSem.ClaimJoined
import GoSem.ClaimMapViews
import Derived.JoinedTies
import Derived.KernelRfl
namespace Go.Proofs.Ytcjkechemjdboaa
/- THE CELL 'sum', in the pinned program and in every row, IS THE sha256 OF THE DUMP (.gsa) THAT YtcjkechemjdboaaProg.lean LOADS. Nothing in Lean hashes anything: it is a label: what it is worth is what the hold of that sum in a sandbox is worth. -/
noncomputable def Try.pinned : Pinned := { name := "ytcjkechemjdboaa", sum := "c009b6788ab1a560f50ac38325353752f8cb7394abd37d70065e8617cf91221e", checked := Try.checked }
namespace Rows
def none {H : Type} : Left H := { results := [], args := [] }

/-- 'waysidelaw05.PostingMakes': WHATEVER THE INPUT: true; the input reads as it did. -/
def postingMakesSpec : ChangeSpec := { name := "postingMakes", fn := fun _ => fun
  | [d] => { results := [.lit (.bool true)], args := [d] }
  | _ => none }
def postingMakesRow : OpenClaim := { program := "ytcjkechemjdboaa", sum := "c009b6788ab1a560f50ac38325353752f8cb7394abd37d70065e8617cf91221e", func := "wayside/waysidelaw05.PostingMakes", spec := "postingMakes", inPlace := ["internal/bytealg.abigen_runtime_cmpstring"], unfollowed := true, recurses := true, apart := false }
def PostingMakesSaid : Prop := postingMakesRow.holds Try.pinned (OpenSpec.ofChange postingMakesSpec)

/-- ITS FALSE NEIGHBOUR: 'it returns false'. Refute it at one input. -/
def postingMakesWrong : ChangeSpec := { name := "postingMakes", fn := fun _ => fun
  | [d] => { results := [.lit (.bool false)], args := [d] }
  | _ => none }
def PostingMakesWrongFalsely : Prop := postingMakesRow.holds Try.pinned (OpenSpec.ofChange postingMakesWrong)

/-- 'waysidelaw05.PostingOrder': WHATEVER THE INPUT: true; the input reads as it did. -/
def postingOrderSpec : ChangeSpec := { name := "postingOrder", fn := fun _ => fun
  | [d1, d2] => { results := [.lit (.bool true)], args := [d1, d2] }
  | _ => none }
def postingOrderRow : OpenClaim := { program := "ytcjkechemjdboaa", sum := "c009b6788ab1a560f50ac38325353752f8cb7394abd37d70065e8617cf91221e", func := "wayside/waysidelaw05.PostingOrder", spec := "postingOrder", inPlace := ["internal/bytealg.abigen_runtime_cmpstring"], unfollowed := true, recurses := true, apart := false }
def PostingOrderSaid : Prop := postingOrderRow.holds Try.pinned (OpenSpec.ofChange postingOrderSpec)

/-- ITS FALSE NEIGHBOUR: 'it returns false'. Refute it at one input. -/
def postingOrderWrong : ChangeSpec := { name := "postingOrder", fn := fun _ => fun
  | [d1, d2] => { results := [.lit (.bool false)], args := [d1, d2] }
  | _ => none }
def PostingOrderWrongFalsely : Prop := postingOrderRow.holds Try.pinned (OpenSpec.ofChange postingOrderWrong)

/-- 'waysidelaw05.PostingMore': WHATEVER THE INPUT: true; the input reads as it did. -/
def postingMoreSpec : ChangeSpec := { name := "postingMore", fn := fun _ => fun
  | [d1, d2, d3] => { results := [.lit (.bool true)], args := [d1, d2, d3] }
  | _ => none }
def postingMoreRow : OpenClaim := { program := "ytcjkechemjdboaa", sum := "c009b6788ab1a560f50ac38325353752f8cb7394abd37d70065e8617cf91221e", func := "wayside/waysidelaw05.PostingMore", spec := "postingMore", inPlace := ["internal/bytealg.abigen_runtime_cmpstring"], unfollowed := true, recurses := true, apart := false }
def PostingMoreSaid : Prop := postingMoreRow.holds Try.pinned (OpenSpec.ofChange postingMoreSpec)

/-- ITS FALSE NEIGHBOUR: 'it returns false'. Refute it at one input. -/
def postingMoreWrong : ChangeSpec := { name := "postingMore", fn := fun _ => fun
  | [d1, d2, d3] => { results := [.lit (.bool false)], args := [d1, d2, d3] }
  | _ => none }
def PostingMoreWrongFalsely : Prop := postingMoreRow.holds Try.pinned (OpenSpec.ofChange postingMoreWrong)

/-- 'waysidelaw05.PostingTells': WHATEVER THE INPUT: true; the input reads as it did. -/
def postingTellsSpec : ChangeSpec := { name := "postingTells", fn := fun _ => fun
  | [d1, d2, d3, d4, d5] => { results := [.lit (.bool true)], args := [d1, d2, d3, d4, d5] }
  | _ => none }
def postingTellsRow : OpenClaim := { program := "ytcjkechemjdboaa", sum := "c009b6788ab1a560f50ac38325353752f8cb7394abd37d70065e8617cf91221e", func := "wayside/waysidelaw05.PostingTells", spec := "postingTells", inPlace := ["internal/bytealg.abigen_runtime_cmpstring"], unfollowed := true, recurses := true, apart := false }
def PostingTellsSaid : Prop := postingTellsRow.holds Try.pinned (OpenSpec.ofChange postingTellsSpec)

/-- ITS FALSE NEIGHBOUR: 'it returns false'. Refute it at one input. -/
def postingTellsWrong : ChangeSpec := { name := "postingTells", fn := fun _ => fun
  | [d1, d2, d3, d4, d5] => { results := [.lit (.bool false)], args := [d1, d2, d3, d4, d5] }
  | _ => none }
def PostingTellsWrongFalsely : Prop := postingTellsRow.holds Try.pinned (OpenSpec.ofChange postingTellsWrong)

/-- 'waysidelaw05.PostingBoth': WHATEVER THE INPUT: true; the input reads as it did. -/
def postingBothSpec : ChangeSpec := { name := "postingBoth", fn := fun _ => fun
  | [d1, d2] => { results := [.lit (.bool true)], args := [d1, d2] }
  | _ => none }
def postingBothRow : OpenClaim := { program := "ytcjkechemjdboaa", sum := "c009b6788ab1a560f50ac38325353752f8cb7394abd37d70065e8617cf91221e", func := "wayside/waysidelaw05.PostingBoth", spec := "postingBoth", inPlace := ["internal/bytealg.abigen_runtime_cmpstring"], unfollowed := true, recurses := true, apart := false }
def PostingBothSaid : Prop := postingBothRow.holds Try.pinned (OpenSpec.ofChange postingBothSpec)

/-- ITS FALSE NEIGHBOUR: 'it returns false'. Refute it at one input. -/
def postingBothWrong : ChangeSpec := { name := "postingBoth", fn := fun _ => fun
  | [d1, d2] => { results := [.lit (.bool false)], args := [d1, d2] }
  | _ => none }
def PostingBothWrongFalsely : Prop := postingBothRow.holds Try.pinned (OpenSpec.ofChange postingBothWrong)

/-- 'waysidelaw04.RowsMake': WHATEVER THE INPUT: true; the input reads as it did. -/
def rowsMakeSpec : ChangeSpec := { name := "rowsMake", fn := fun _ => fun
  | [d] => { results := [.lit (.bool true)], args := [d] }
  | _ => none }
def rowsMakeRow : OpenClaim := { program := "ytcjkechemjdboaa", sum := "c009b6788ab1a560f50ac38325353752f8cb7394abd37d70065e8617cf91221e", func := "wayside/waysidelaw04.RowsMake", spec := "rowsMake", inPlace := ["internal/bytealg.abigen_runtime_cmpstring"], unfollowed := true, recurses := true, apart := false }
def RowsMakeSaid : Prop := rowsMakeRow.holds Try.pinned (OpenSpec.ofChange rowsMakeSpec)

/-- ITS FALSE NEIGHBOUR: 'it returns false'. Refute it at one input. -/
def rowsMakeWrong : ChangeSpec := { name := "rowsMake", fn := fun _ => fun
  | [d] => { results := [.lit (.bool false)], args := [d] }
  | _ => none }
def RowsMakeWrongFalsely : Prop := rowsMakeRow.holds Try.pinned (OpenSpec.ofChange rowsMakeWrong)

/-- 'waysidelaw04.RowsBoth': WHATEVER THE INPUT: true; the input reads as it did. -/
def rowsBothSpec : ChangeSpec := { name := "rowsBoth", fn := fun _ => fun
  | [d] => { results := [.lit (.bool true)], args := [d] }
  | _ => none }
def rowsBothRow : OpenClaim := { program := "ytcjkechemjdboaa", sum := "c009b6788ab1a560f50ac38325353752f8cb7394abd37d70065e8617cf91221e", func := "wayside/waysidelaw04.RowsBoth", spec := "rowsBoth", inPlace := ["internal/bytealg.abigen_runtime_cmpstring"], unfollowed := true, recurses := true, apart := false }
def RowsBothSaid : Prop := rowsBothRow.holds Try.pinned (OpenSpec.ofChange rowsBothSpec)

/-- ITS FALSE NEIGHBOUR: 'it returns false'. Refute it at one input. -/
def rowsBothWrong : ChangeSpec := { name := "rowsBoth", fn := fun _ => fun
  | [d] => { results := [.lit (.bool false)], args := [d] }
  | _ => none }
def RowsBothWrongFalsely : Prop := rowsBothRow.holds Try.pinned (OpenSpec.ofChange rowsBothWrong)

/-- 'waysidelaw04.RowsTurned': WHATEVER THE INPUT: true; the input reads as it did. -/
def rowsTurnedSpec : ChangeSpec := { name := "rowsTurned", fn := fun _ => fun
  | [d] => { results := [.lit (.bool true)], args := [d] }
  | _ => none }
def rowsTurnedRow : OpenClaim := { program := "ytcjkechemjdboaa", sum := "c009b6788ab1a560f50ac38325353752f8cb7394abd37d70065e8617cf91221e", func := "wayside/waysidelaw04.RowsTurned", spec := "rowsTurned", inPlace := ["internal/bytealg.abigen_runtime_cmpstring"], unfollowed := true, recurses := true, apart := false }
def RowsTurnedSaid : Prop := rowsTurnedRow.holds Try.pinned (OpenSpec.ofChange rowsTurnedSpec)

/-- ITS FALSE NEIGHBOUR: 'it returns false'. Refute it at one input. -/
def rowsTurnedWrong : ChangeSpec := { name := "rowsTurned", fn := fun _ => fun
  | [d] => { results := [.lit (.bool false)], args := [d] }
  | _ => none }
def RowsTurnedWrongFalsely : Prop := rowsTurnedRow.holds Try.pinned (OpenSpec.ofChange rowsTurnedWrong)

/-- 'waysidelaw04.RowsTell': WHATEVER THE INPUT: true; the input reads as it did. -/
def rowsTellSpec : ChangeSpec := { name := "rowsTell", fn := fun _ => fun
  | [d1, d2, d3] => { results := [.lit (.bool true)], args := [d1, d2, d3] }
  | _ => none }
def rowsTellRow : OpenClaim := { program := "ytcjkechemjdboaa", sum := "c009b6788ab1a560f50ac38325353752f8cb7394abd37d70065e8617cf91221e", func := "wayside/waysidelaw04.RowsTell", spec := "rowsTell", inPlace := ["internal/bytealg.abigen_runtime_cmpstring"], unfollowed := true, recurses := true, apart := false }
def RowsTellSaid : Prop := rowsTellRow.holds Try.pinned (OpenSpec.ofChange rowsTellSpec)

/-- ITS FALSE NEIGHBOUR: 'it returns false'. Refute it at one input. -/
def rowsTellWrong : ChangeSpec := { name := "rowsTell", fn := fun _ => fun
  | [d1, d2, d3] => { results := [.lit (.bool false)], args := [d1, d2, d3] }
  | _ => none }
def RowsTellWrongFalsely : Prop := rowsTellRow.holds Try.pinned (OpenSpec.ofChange rowsTellWrong)

/-- 'waysidelaw04.RowsBack': WHATEVER THE INPUT: true; the input reads as it did. -/
def rowsBackSpec : ChangeSpec := { name := "rowsBack", fn := fun _ => fun
  | [d] => { results := [.lit (.bool true)], args := [d] }
  | _ => none }
def rowsBackRow : OpenClaim := { program := "ytcjkechemjdboaa", sum := "c009b6788ab1a560f50ac38325353752f8cb7394abd37d70065e8617cf91221e", func := "wayside/waysidelaw04.RowsBack", spec := "rowsBack", inPlace := ["internal/bytealg.abigen_runtime_cmpstring"], unfollowed := true, recurses := true, apart := false }
def RowsBackSaid : Prop := rowsBackRow.holds Try.pinned (OpenSpec.ofChange rowsBackSpec)

/-- ITS FALSE NEIGHBOUR: 'it returns false'. Refute it at one input. -/
def rowsBackWrong : ChangeSpec := { name := "rowsBack", fn := fun _ => fun
  | [d] => { results := [.lit (.bool false)], args := [d] }
  | _ => none }
def RowsBackWrongFalsely : Prop := rowsBackRow.holds Try.pinned (OpenSpec.ofChange rowsBackWrong)

/- THE SECOND FORM. 'bulk': how many values and letters a reading holds, each counted each time it is reached (what is shared counts as often as it is met; a slice's spare places count too). A statement '..UptoSaid' is the law's where the arguments, and the package variables that the reading takes, are together of bulk at most 1048576: NARROWER than '..Said'. Prove '..Said' where nothing that the law and all that it calls make is longer than what came in: it says more and counts as full. Else prove '..UptoSaid'. A law counts once. -/
mutual
def uptoBulk {H : Type} : DataW H → Nat
  | .lit (.string bytes) => bytes.length + 1
  | .lit _ => 1
  | .nil => 1
  | .ptr d => uptoBulk d + 1
  | .slice elems spare => uptoBulkAll elems + uptoBulkAll spare + 1
  | .agg parts => uptoBulkAll parts + 1
  | .iface _ d => uptoBulk d + 1
  | .map entries => uptoBulkEntries entries + 1
  | .held _ => 1
def uptoBulkAll {H : Type} : List (DataW H) → Nat
  | [] => 0
  | d :: r => uptoBulk d + uptoBulkAll r
def uptoBulkEntries {H : Type} : List (Lit × DataW H) → Nat
  | [] => 0
  | x :: r => uptoBulkEntry x + uptoBulkEntries r
def uptoBulkEntry {H : Type} : Lit × DataW H → Nat
  | (.string bytes, d) => bytes.length + uptoBulk d + 1
  | (_, d) => uptoBulk d + 1
 end
def uptoSmall : (H : Type) → List (DataW H) → Bool := fun _ ds => decide (uptoBulkAll ds ≤ 1048576)
def OpenSpec.upto (s : _root_.Go.ChangeSpec) : _root_.Go.OpenSpec := { _root_.Go.OpenSpec.ofChange s with cond := some uptoSmall }

/-- 'waysidelaw05.PostingMakes', WHERE WHAT IT READS IS OF BULK AT MOST 1048576: true; the input reads as it did. -/
def postingMakesUptoRow : OpenClaim := { program := "ytcjkechemjdboaa", sum := "c009b6788ab1a560f50ac38325353752f8cb7394abd37d70065e8617cf91221e", func := "wayside/waysidelaw05.PostingMakes", spec := "postingMakes", inPlace := ["internal/bytealg.abigen_runtime_cmpstring"], unfollowed := true, recurses := true, apart := false, narrowed := true }
def PostingMakesUptoSaid : Prop := postingMakesUptoRow.holds Try.pinned (OpenSpec.upto postingMakesSpec)

/-- 'waysidelaw05.PostingOrder', WHERE WHAT IT READS IS OF BULK AT MOST 1048576: true; the input reads as it did. -/
def postingOrderUptoRow : OpenClaim := { program := "ytcjkechemjdboaa", sum := "c009b6788ab1a560f50ac38325353752f8cb7394abd37d70065e8617cf91221e", func := "wayside/waysidelaw05.PostingOrder", spec := "postingOrder", inPlace := ["internal/bytealg.abigen_runtime_cmpstring"], unfollowed := true, recurses := true, apart := false, narrowed := true }
def PostingOrderUptoSaid : Prop := postingOrderUptoRow.holds Try.pinned (OpenSpec.upto postingOrderSpec)

/-- 'waysidelaw05.PostingMore', WHERE WHAT IT READS IS OF BULK AT MOST 1048576: true; the input reads as it did. -/
def postingMoreUptoRow : OpenClaim := { program := "ytcjkechemjdboaa", sum := "c009b6788ab1a560f50ac38325353752f8cb7394abd37d70065e8617cf91221e", func := "wayside/waysidelaw05.PostingMore", spec := "postingMore", inPlace := ["internal/bytealg.abigen_runtime_cmpstring"], unfollowed := true, recurses := true, apart := false, narrowed := true }
def PostingMoreUptoSaid : Prop := postingMoreUptoRow.holds Try.pinned (OpenSpec.upto postingMoreSpec)

/-- 'waysidelaw05.PostingTells', WHERE WHAT IT READS IS OF BULK AT MOST 1048576: true; the input reads as it did. -/
def postingTellsUptoRow : OpenClaim := { program := "ytcjkechemjdboaa", sum := "c009b6788ab1a560f50ac38325353752f8cb7394abd37d70065e8617cf91221e", func := "wayside/waysidelaw05.PostingTells", spec := "postingTells", inPlace := ["internal/bytealg.abigen_runtime_cmpstring"], unfollowed := true, recurses := true, apart := false, narrowed := true }
def PostingTellsUptoSaid : Prop := postingTellsUptoRow.holds Try.pinned (OpenSpec.upto postingTellsSpec)

/-- 'waysidelaw05.PostingBoth', WHERE WHAT IT READS IS OF BULK AT MOST 1048576: true; the input reads as it did. -/
def postingBothUptoRow : OpenClaim := { program := "ytcjkechemjdboaa", sum := "c009b6788ab1a560f50ac38325353752f8cb7394abd37d70065e8617cf91221e", func := "wayside/waysidelaw05.PostingBoth", spec := "postingBoth", inPlace := ["internal/bytealg.abigen_runtime_cmpstring"], unfollowed := true, recurses := true, apart := false, narrowed := true }
def PostingBothUptoSaid : Prop := postingBothUptoRow.holds Try.pinned (OpenSpec.upto postingBothSpec)

/-- 'waysidelaw04.RowsMake', WHERE WHAT IT READS IS OF BULK AT MOST 1048576: true; the input reads as it did. -/
def rowsMakeUptoRow : OpenClaim := { program := "ytcjkechemjdboaa", sum := "c009b6788ab1a560f50ac38325353752f8cb7394abd37d70065e8617cf91221e", func := "wayside/waysidelaw04.RowsMake", spec := "rowsMake", inPlace := ["internal/bytealg.abigen_runtime_cmpstring"], unfollowed := true, recurses := true, apart := false, narrowed := true }
def RowsMakeUptoSaid : Prop := rowsMakeUptoRow.holds Try.pinned (OpenSpec.upto rowsMakeSpec)

/-- 'waysidelaw04.RowsBoth', WHERE WHAT IT READS IS OF BULK AT MOST 1048576: true; the input reads as it did. -/
def rowsBothUptoRow : OpenClaim := { program := "ytcjkechemjdboaa", sum := "c009b6788ab1a560f50ac38325353752f8cb7394abd37d70065e8617cf91221e", func := "wayside/waysidelaw04.RowsBoth", spec := "rowsBoth", inPlace := ["internal/bytealg.abigen_runtime_cmpstring"], unfollowed := true, recurses := true, apart := false, narrowed := true }
def RowsBothUptoSaid : Prop := rowsBothUptoRow.holds Try.pinned (OpenSpec.upto rowsBothSpec)

/-- 'waysidelaw04.RowsTurned', WHERE WHAT IT READS IS OF BULK AT MOST 1048576: true; the input reads as it did. -/
def rowsTurnedUptoRow : OpenClaim := { program := "ytcjkechemjdboaa", sum := "c009b6788ab1a560f50ac38325353752f8cb7394abd37d70065e8617cf91221e", func := "wayside/waysidelaw04.RowsTurned", spec := "rowsTurned", inPlace := ["internal/bytealg.abigen_runtime_cmpstring"], unfollowed := true, recurses := true, apart := false, narrowed := true }
def RowsTurnedUptoSaid : Prop := rowsTurnedUptoRow.holds Try.pinned (OpenSpec.upto rowsTurnedSpec)

/-- 'waysidelaw04.RowsTell', WHERE WHAT IT READS IS OF BULK AT MOST 1048576: true; the input reads as it did. -/
def rowsTellUptoRow : OpenClaim := { program := "ytcjkechemjdboaa", sum := "c009b6788ab1a560f50ac38325353752f8cb7394abd37d70065e8617cf91221e", func := "wayside/waysidelaw04.RowsTell", spec := "rowsTell", inPlace := ["internal/bytealg.abigen_runtime_cmpstring"], unfollowed := true, recurses := true, apart := false, narrowed := true }
def RowsTellUptoSaid : Prop := rowsTellUptoRow.holds Try.pinned (OpenSpec.upto rowsTellSpec)

/-- 'waysidelaw04.RowsBack', WHERE WHAT IT READS IS OF BULK AT MOST 1048576: true; the input reads as it did. -/
def rowsBackUptoRow : OpenClaim := { program := "ytcjkechemjdboaa", sum := "c009b6788ab1a560f50ac38325353752f8cb7394abd37d70065e8617cf91221e", func := "wayside/waysidelaw04.RowsBack", spec := "rowsBack", inPlace := ["internal/bytealg.abigen_runtime_cmpstring"], unfollowed := true, recurses := true, apart := false, narrowed := true }
def RowsBackUptoSaid : Prop := rowsBackUptoRow.holds Try.pinned (OpenSpec.upto rowsBackSpec)

end Rows
end Go.Proofs.Ytcjkechemjdboaa
