/-
  No cell of these rows narrows 'for every input' (looked for: loops, veiled, ifaces, maps, wideKeys, modest, calm, conditions, laid).
  DERIVED. THE GIVEN ROWS OF THIS SEAT. 4 by the template 'for every input the law returns true; each argument reads behind the call as it read before'; 0 by the template 'total and deterministic' (their statements: YthlmcfbadhidbaaTotals.lean).
  GIVEN WITH THE SEED: the statements are not yours to turn. If you find one false, say at which input.
  Laid BY PROGRAM, IN A SANDBOX (cutbox-rows.mjs): the forced cells as the released guide's own fill.sh prints them over the translation 3f38e91cef8ba813… (all of the seat's roots in one cut). By AI agents, Wed Nov 11 2026. No macro, syntax, notation, axiom, sorry.
-/
import Derived.Test.YthlmcfbadhidbaaChecked
import GoSem.Claim
import GoSem.ClaimJoined
import GoSem.ClaimMapViews
import Derived.JoinedTies
import Derived.KernelRfl
namespace Go.Proofs.Ythlmcfbadhidbaa
/- THE CELL 'sum', in the pinned program and in every row, IS THE sha256 OF THE DUMP (.gsa) THAT YthlmcfbadhidbaaProg.lean LOADS. Nothing in Lean hashes anything: it is a label: what it is worth is what the hold of that sum in a sandbox is worth. -/
noncomputable def Try.pinned : Pinned := { name := "ythlmcfbadhidbaa", sum := "3f38e91cef8ba81354e0ac7faf3c3e284a49ecb22f04efb3924a8ef5a5586beb", checked := Try.checked }
namespace Rows
def none {H : Type} : Left H := { results := [], args := [] }

/-- 'waysidelaw11.OrderNumbers': WHATEVER THE INPUT: true; the input reads as it did. -/
def orderNumbersSpec : ChangeSpec := { name := "orderNumbers", fn := fun _ => fun
  | [d1, d2] => { results := [.lit (.bool true)], args := [d1, d2] }
  | _ => none }
def orderNumbersRow : OpenClaim := { program := "ythlmcfbadhidbaa", sum := "3f38e91cef8ba81354e0ac7faf3c3e284a49ecb22f04efb3924a8ef5a5586beb", func := "wayside/waysidelaw11.OrderNumbers", spec := "orderNumbers", inPlace := ["internal/bytealg.abigen_runtime_cmpstring"], unfollowed := true, recurses := true, apart := false }
def OrderNumbersSaid : Prop := orderNumbersRow.holds Try.pinned (OpenSpec.ofChange orderNumbersSpec)

/-- ITS FALSE NEIGHBOUR: 'it returns false'. Refute it at one input. -/
def orderNumbersWrong : ChangeSpec := { name := "orderNumbers", fn := fun _ => fun
  | [d1, d2] => { results := [.lit (.bool false)], args := [d1, d2] }
  | _ => none }
def OrderNumbersWrongFalsely : Prop := orderNumbersRow.holds Try.pinned (OpenSpec.ofChange orderNumbersWrong)

/-- 'waysidelaw11.OrderEnds': WHATEVER THE INPUT: true; the input reads as it did. -/
def orderEndsSpec : ChangeSpec := { name := "orderEnds", fn := fun _ => fun
  | [d] => { results := [.lit (.bool true)], args := [d] }
  | _ => none }
def orderEndsRow : OpenClaim := { program := "ythlmcfbadhidbaa", sum := "3f38e91cef8ba81354e0ac7faf3c3e284a49ecb22f04efb3924a8ef5a5586beb", func := "wayside/waysidelaw11.OrderEnds", spec := "orderEnds", inPlace := ["internal/bytealg.abigen_runtime_cmpstring"], unfollowed := true, recurses := true, apart := false }
def OrderEndsSaid : Prop := orderEndsRow.holds Try.pinned (OpenSpec.ofChange orderEndsSpec)

/-- ITS FALSE NEIGHBOUR: 'it returns false'. Refute it at one input. -/
def orderEndsWrong : ChangeSpec := { name := "orderEnds", fn := fun _ => fun
  | [d] => { results := [.lit (.bool false)], args := [d] }
  | _ => none }
def OrderEndsWrongFalsely : Prop := orderEndsRow.holds Try.pinned (OpenSpec.ofChange orderEndsWrong)

/-- 'waysidelaw11.OrderRows': WHATEVER THE INPUT: true; the input reads as it did. -/
def orderRowsSpec : ChangeSpec := { name := "orderRows", fn := fun _ => fun
  | [d] => { results := [.lit (.bool true)], args := [d] }
  | _ => none }
def orderRowsRow : OpenClaim := { program := "ythlmcfbadhidbaa", sum := "3f38e91cef8ba81354e0ac7faf3c3e284a49ecb22f04efb3924a8ef5a5586beb", func := "wayside/waysidelaw11.OrderRows", spec := "orderRows", inPlace := ["internal/bytealg.abigen_runtime_cmpstring"], unfollowed := true, recurses := true, apart := false }
def OrderRowsSaid : Prop := orderRowsRow.holds Try.pinned (OpenSpec.ofChange orderRowsSpec)

/-- ITS FALSE NEIGHBOUR: 'it returns false'. Refute it at one input. -/
def orderRowsWrong : ChangeSpec := { name := "orderRows", fn := fun _ => fun
  | [d] => { results := [.lit (.bool false)], args := [d] }
  | _ => none }
def OrderRowsWrongFalsely : Prop := orderRowsRow.holds Try.pinned (OpenSpec.ofChange orderRowsWrong)

/-- 'waysidelaw11.OrderBack': WHATEVER THE INPUT: true; the input reads as it did. -/
def orderBackSpec : ChangeSpec := { name := "orderBack", fn := fun _ => fun
  | [d] => { results := [.lit (.bool true)], args := [d] }
  | _ => none }
def orderBackRow : OpenClaim := { program := "ythlmcfbadhidbaa", sum := "3f38e91cef8ba81354e0ac7faf3c3e284a49ecb22f04efb3924a8ef5a5586beb", func := "wayside/waysidelaw11.OrderBack", spec := "orderBack", inPlace := ["internal/bytealg.abigen_runtime_cmpstring"], unfollowed := true, recurses := true, apart := false }
def OrderBackSaid : Prop := orderBackRow.holds Try.pinned (OpenSpec.ofChange orderBackSpec)

/-- ITS FALSE NEIGHBOUR: 'it returns false'. Refute it at one input. -/
def orderBackWrong : ChangeSpec := { name := "orderBack", fn := fun _ => fun
  | [d] => { results := [.lit (.bool false)], args := [d] }
  | _ => none }
def OrderBackWrongFalsely : Prop := orderBackRow.holds Try.pinned (OpenSpec.ofChange orderBackWrong)

/- THE SECOND FORM. 'bulk': how many values and letters a reading holds, each counted each time it is reached (what is shared counts as often as it is met; a slice's spare places count too). A statement '..UptoSaid' is the law's where the arguments, and the package variables that the reading takes, are together of bulk at most 1048576: NARROWER than '..Said'. Prove '..Said' where nothing that the law and all that it calls make is longer than what came in: it says more and counts as full. Else prove '..UptoSaid'. A law counts once. -/
mutual
def uptoBulk {H : Type} : DataW H → Nat
  | .lit (.string bytes) => bytes.length + 1
  | .lit _ => 1
  | .nil => 1
  | .ptr d => uptoBulk d + 1
  | .slice elems spare => uptoBulkAll elems + uptoBulkAll spare + 1
  | .agg parts => uptoBulkAll parts + 1
  | .iface _ d => uptoBulk d + 1
  | .map entries => uptoBulkEntries entries + 1
  | .held _ => 1
def uptoBulkAll {H : Type} : List (DataW H) → Nat
  | [] => 0
  | d :: r => uptoBulk d + uptoBulkAll r
def uptoBulkEntries {H : Type} : List (Lit × DataW H) → Nat
  | [] => 0
  | x :: r => uptoBulkEntry x + uptoBulkEntries r
def uptoBulkEntry {H : Type} : Lit × DataW H → Nat
  | (.string bytes, d) => bytes.length + uptoBulk d + 1
  | (_, d) => uptoBulk d + 1
 end
def uptoSmall : (H : Type) → List (DataW H) → Bool := fun _ ds => decide (uptoBulkAll ds ≤ 1048576)
def OpenSpec.upto (s : _root_.Go.ChangeSpec) : _root_.Go.OpenSpec := { _root_.Go.OpenSpec.ofChange s with cond := some uptoSmall }

/-- 'waysidelaw11.OrderNumbers', WHERE WHAT IT READS IS OF BULK AT MOST 1048576: true; the input reads as it did. -/
def orderNumbersUptoRow : OpenClaim := { program := "ythlmcfbadhidbaa", sum := "3f38e91cef8ba81354e0ac7faf3c3e284a49ecb22f04efb3924a8ef5a5586beb", func := "wayside/waysidelaw11.OrderNumbers", spec := "orderNumbers", inPlace := ["internal/bytealg.abigen_runtime_cmpstring"], unfollowed := true, recurses := true, apart := false, narrowed := true }
def OrderNumbersUptoSaid : Prop := orderNumbersUptoRow.holds Try.pinned (OpenSpec.upto orderNumbersSpec)

/-- 'waysidelaw11.OrderEnds', WHERE WHAT IT READS IS OF BULK AT MOST 1048576: true; the input reads as it did. -/
def orderEndsUptoRow : OpenClaim := { program := "ythlmcfbadhidbaa", sum := "3f38e91cef8ba81354e0ac7faf3c3e284a49ecb22f04efb3924a8ef5a5586beb", func := "wayside/waysidelaw11.OrderEnds", spec := "orderEnds", inPlace := ["internal/bytealg.abigen_runtime_cmpstring"], unfollowed := true, recurses := true, apart := false, narrowed := true }
def OrderEndsUptoSaid : Prop := orderEndsUptoRow.holds Try.pinned (OpenSpec.upto orderEndsSpec)

/-- 'waysidelaw11.OrderRows', WHERE WHAT IT READS IS OF BULK AT MOST 1048576: true; the input reads as it did. -/
def orderRowsUptoRow : OpenClaim := { program := "ythlmcfbadhidbaa", sum := "3f38e91cef8ba81354e0ac7faf3c3e284a49ecb22f04efb3924a8ef5a5586beb", func := "wayside/waysidelaw11.OrderRows", spec := "orderRows", inPlace := ["internal/bytealg.abigen_runtime_cmpstring"], unfollowed := true, recurses := true, apart := false, narrowed := true }
def OrderRowsUptoSaid : Prop := orderRowsUptoRow.holds Try.pinned (OpenSpec.upto orderRowsSpec)

/-- 'waysidelaw11.OrderBack', WHERE WHAT IT READS IS OF BULK AT MOST 1048576: true; the input reads as it did. -/
def orderBackUptoRow : OpenClaim := { program := "ythlmcfbadhidbaa", sum := "3f38e91cef8ba81354e0ac7faf3c3e284a49ecb22f04efb3924a8ef5a5586beb", func := "wayside/waysidelaw11.OrderBack", spec := "orderBack", inPlace := ["internal/bytealg.abigen_runtime_cmpstring"], unfollowed := true, recurses := true, apart := false, narrowed := true }
def OrderBackUptoSaid : Prop := orderBackUptoRow.holds Try.pinned (OpenSpec.upto orderBackSpec)

end Rows
end Go.Proofs.Ythlmcfbadhidbaa
