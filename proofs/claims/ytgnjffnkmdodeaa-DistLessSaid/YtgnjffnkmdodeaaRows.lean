/-
  No cell of these rows narrows 'for every input' (looked for: loops, veiled, ifaces, maps, wideKeys, modest, calm, conditions, laid).
  DERIVED. THE GIVEN ROWS OF THIS SEAT. 4 by the template 'for every input the law returns true; each argument reads behind the call as it read before'; 0 by the template 'total and deterministic' (their statements: YtgnjffnkmdodeaaTotals.lean).
  GIVEN WITH THE SEED: the statements are not yours to turn. If you find one false, say at which input.
  Laid BY PROGRAM, IN A SANDBOX (cutbox-rows.mjs): the forced cells as the released guide's own fill.sh prints them over the translation f9cdccea141b2d59… (all of the seat's roots in one cut). By AI agents, Wed Nov 11 2026. No macro, syntax, notation, axiom, sorry.
-/
import Derived.Test.YtgnjffnkmdodeaaChecked
import GoSem.Claim
import GoSem.ClaimJoined
import GoSem.ClaimMapViews
import Derived.JoinedTies
import Derived.KernelRfl
namespace Go.Proofs.Ytgnjffnkmdodeaa
/- THE CELL 'sum', in the pinned program and in every row, IS THE sha256 OF THE DUMP (.gsa) THAT YtgnjffnkmdodeaaProg.lean LOADS. Nothing in Lean hashes anything: it is a label: what it is worth is what the hold of that sum in a sandbox is worth. -/
noncomputable def Try.pinned : Pinned := { name := "ytgnjffnkmdodeaa", sum := "f9cdccea141b2d598bd2ddf893d5b13c405a7c55972d31f3e2aea10099b1396e", checked := Try.checked }
namespace Rows
def none {H : Type} : Left H := { results := [], args := [] }

/-- 'waysidelaw04.RowsTell': WHATEVER THE INPUT: true; the input reads as it did. -/
def rowsTellSpec : ChangeSpec := { name := "rowsTell", fn := fun _ => fun
  | [d1, d2, d3] => { results := [.lit (.bool true)], args := [d1, d2, d3] }
  | _ => none }
def rowsTellRow : OpenClaim := { program := "ytgnjffnkmdodeaa", sum := "f9cdccea141b2d598bd2ddf893d5b13c405a7c55972d31f3e2aea10099b1396e", func := "wayside/waysidelaw04.RowsTell", spec := "rowsTell", inPlace := ["internal/bytealg.abigen_runtime_cmpstring"], unfollowed := true, recurses := true, apart := false }
def RowsTellSaid : Prop := rowsTellRow.holds Try.pinned (OpenSpec.ofChange rowsTellSpec)

/-- ITS FALSE NEIGHBOUR: 'it returns false'. Refute it at one input. -/
def rowsTellWrong : ChangeSpec := { name := "rowsTell", fn := fun _ => fun
  | [d1, d2, d3] => { results := [.lit (.bool false)], args := [d1, d2, d3] }
  | _ => none }
def RowsTellWrongFalsely : Prop := rowsTellRow.holds Try.pinned (OpenSpec.ofChange rowsTellWrong)

/-- 'waysidelaw08.DistHalf': WHATEVER THE INPUT: true; the input reads as it did. -/
def distHalfSpec : ChangeSpec := { name := "distHalf", fn := fun _ => fun
  | [d1, d2, d3] => { results := [.lit (.bool true)], args := [d1, d2, d3] }
  | _ => none }
def distHalfRow : OpenClaim := { program := "ytgnjffnkmdodeaa", sum := "f9cdccea141b2d598bd2ddf893d5b13c405a7c55972d31f3e2aea10099b1396e", func := "wayside/waysidelaw08.DistHalf", spec := "distHalf", inPlace := ["internal/bytealg.abigen_runtime_cmpstring"], unfollowed := true, recurses := true, apart := false }
def DistHalfSaid : Prop := distHalfRow.holds Try.pinned (OpenSpec.ofChange distHalfSpec)

/-- ITS FALSE NEIGHBOUR: 'it returns false'. Refute it at one input. -/
def distHalfWrong : ChangeSpec := { name := "distHalf", fn := fun _ => fun
  | [d1, d2, d3] => { results := [.lit (.bool false)], args := [d1, d2, d3] }
  | _ => none }
def DistHalfWrongFalsely : Prop := distHalfRow.holds Try.pinned (OpenSpec.ofChange distHalfWrong)

/-- 'waysidelaw08.DistPath': WHATEVER THE INPUT: true; the input reads as it did. -/
def distPathSpec : ChangeSpec := { name := "distPath", fn := fun _ => fun
  | [d1, d2, d3] => { results := [.lit (.bool true)], args := [d1, d2, d3] }
  | _ => none }
def distPathRow : OpenClaim := { program := "ytgnjffnkmdodeaa", sum := "f9cdccea141b2d598bd2ddf893d5b13c405a7c55972d31f3e2aea10099b1396e", func := "wayside/waysidelaw08.DistPath", spec := "distPath", inPlace := ["internal/bytealg.abigen_runtime_cmpstring"], unfollowed := true, recurses := true, apart := false }
def DistPathSaid : Prop := distPathRow.holds Try.pinned (OpenSpec.ofChange distPathSpec)

/-- ITS FALSE NEIGHBOUR: 'it returns false'. Refute it at one input. -/
def distPathWrong : ChangeSpec := { name := "distPath", fn := fun _ => fun
  | [d1, d2, d3] => { results := [.lit (.bool false)], args := [d1, d2, d3] }
  | _ => none }
def DistPathWrongFalsely : Prop := distPathRow.holds Try.pinned (OpenSpec.ofChange distPathWrong)

/-- 'waysidelaw08.DistLess': WHATEVER THE INPUT: true; the input reads as it did. -/
def distLessSpec : ChangeSpec := { name := "distLess", fn := fun _ => fun
  | [d1, d2, d3] => { results := [.lit (.bool true)], args := [d1, d2, d3] }
  | _ => none }
def distLessRow : OpenClaim := { program := "ytgnjffnkmdodeaa", sum := "f9cdccea141b2d598bd2ddf893d5b13c405a7c55972d31f3e2aea10099b1396e", func := "wayside/waysidelaw08.DistLess", spec := "distLess", inPlace := ["internal/bytealg.abigen_runtime_cmpstring"], unfollowed := true, recurses := true, apart := false }
def DistLessSaid : Prop := distLessRow.holds Try.pinned (OpenSpec.ofChange distLessSpec)

/-- ITS FALSE NEIGHBOUR: 'it returns false'. Refute it at one input. -/
def distLessWrong : ChangeSpec := { name := "distLess", fn := fun _ => fun
  | [d1, d2, d3] => { results := [.lit (.bool false)], args := [d1, d2, d3] }
  | _ => none }
def DistLessWrongFalsely : Prop := distLessRow.holds Try.pinned (OpenSpec.ofChange distLessWrong)

/- THE SECOND FORM. 'bulk': how many values and letters a reading holds, each counted each time it is reached (what is shared counts as often as it is met; a slice's spare places count too). A statement '..UptoSaid' is the law's where the arguments, and the package variables that the reading takes, are together of bulk at most 1048576: NARROWER than '..Said'. Prove '..Said' where nothing that the law and all that it calls make is longer than what came in: it says more and counts as full. Else prove '..UptoSaid'. A law counts once. -/
mutual
def uptoBulk {H : Type} : DataW H → Nat
  | .lit (.string bytes) => bytes.length + 1
  | .lit _ => 1
  | .nil => 1
  | .ptr d => uptoBulk d + 1
  | .slice elems spare => uptoBulkAll elems + uptoBulkAll spare + 1
  | .agg parts => uptoBulkAll parts + 1
  | .iface _ d => uptoBulk d + 1
  | .map entries => uptoBulkEntries entries + 1
  | .held _ => 1
def uptoBulkAll {H : Type} : List (DataW H) → Nat
  | [] => 0
  | d :: r => uptoBulk d + uptoBulkAll r
def uptoBulkEntries {H : Type} : List (Lit × DataW H) → Nat
  | [] => 0
  | x :: r => uptoBulkEntry x + uptoBulkEntries r
def uptoBulkEntry {H : Type} : Lit × DataW H → Nat
  | (.string bytes, d) => bytes.length + uptoBulk d + 1
  | (_, d) => uptoBulk d + 1
 end
def uptoSmall : (H : Type) → List (DataW H) → Bool := fun _ ds => decide (uptoBulkAll ds ≤ 1048576)
def OpenSpec.upto (s : _root_.Go.ChangeSpec) : _root_.Go.OpenSpec := { _root_.Go.OpenSpec.ofChange s with cond := some uptoSmall }

/-- 'waysidelaw04.RowsTell', WHERE WHAT IT READS IS OF BULK AT MOST 1048576: true; the input reads as it did. -/
def rowsTellUptoRow : OpenClaim := { program := "ytgnjffnkmdodeaa", sum := "f9cdccea141b2d598bd2ddf893d5b13c405a7c55972d31f3e2aea10099b1396e", func := "wayside/waysidelaw04.RowsTell", spec := "rowsTell", inPlace := ["internal/bytealg.abigen_runtime_cmpstring"], unfollowed := true, recurses := true, apart := false, narrowed := true }
def RowsTellUptoSaid : Prop := rowsTellUptoRow.holds Try.pinned (OpenSpec.upto rowsTellSpec)

/-- 'waysidelaw08.DistHalf', WHERE WHAT IT READS IS OF BULK AT MOST 1048576: true; the input reads as it did. -/
def distHalfUptoRow : OpenClaim := { program := "ytgnjffnkmdodeaa", sum := "f9cdccea141b2d598bd2ddf893d5b13c405a7c55972d31f3e2aea10099b1396e", func := "wayside/waysidelaw08.DistHalf", spec := "distHalf", inPlace := ["internal/bytealg.abigen_runtime_cmpstring"], unfollowed := true, recurses := true, apart := false, narrowed := true }
def DistHalfUptoSaid : Prop := distHalfUptoRow.holds Try.pinned (OpenSpec.upto distHalfSpec)

/-- 'waysidelaw08.DistPath', WHERE WHAT IT READS IS OF BULK AT MOST 1048576: true; the input reads as it did. -/
def distPathUptoRow : OpenClaim := { program := "ytgnjffnkmdodeaa", sum := "f9cdccea141b2d598bd2ddf893d5b13c405a7c55972d31f3e2aea10099b1396e", func := "wayside/waysidelaw08.DistPath", spec := "distPath", inPlace := ["internal/bytealg.abigen_runtime_cmpstring"], unfollowed := true, recurses := true, apart := false, narrowed := true }
def DistPathUptoSaid : Prop := distPathUptoRow.holds Try.pinned (OpenSpec.upto distPathSpec)

/-- 'waysidelaw08.DistLess', WHERE WHAT IT READS IS OF BULK AT MOST 1048576: true; the input reads as it did. -/
def distLessUptoRow : OpenClaim := { program := "ytgnjffnkmdodeaa", sum := "f9cdccea141b2d598bd2ddf893d5b13c405a7c55972d31f3e2aea10099b1396e", func := "wayside/waysidelaw08.DistLess", spec := "distLess", inPlace := ["internal/bytealg.abigen_runtime_cmpstring"], unfollowed := true, recurses := true, apart := false, narrowed := true }
def DistLessUptoSaid : Prop := distLessUptoRow.holds Try.pinned (OpenSpec.upto distLessSpec)

end Rows
end Go.Proofs.Ytgnjffnkmdodeaa
