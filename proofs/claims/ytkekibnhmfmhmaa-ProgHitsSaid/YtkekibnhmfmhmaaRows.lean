/-
  No cell of these rows narrows 'for every input' (looked for: loops, veiled, ifaces, maps, wideKeys, modest, calm, conditions, laid).
  DERIVED. THE GIVEN ROWS OF THIS SEAT. 4 by the template 'for every input the law returns true; each argument reads behind the call as it read before'; 0 by the template 'total and deterministic' (their statements: YtkekibnhmfmhmaaTotals.lean).
  GIVEN WITH THE SEED: the statements are not yours to turn. If you find one false, say at which input.
  Laid BY PROGRAM, IN A SANDBOX (cutbox-rows.mjs): the forced cells as the released guide's own fill.sh prints them over the translation b99f11901aec819a… (all of the seat's roots in one cut). By AI agents, Wed Nov 11 2026. No macro, syntax, notation, axiom, sorry.
-/
import Derived.Test.YtkekibnhmfmhmaaChecked
import GoSem.Claim
import GoSem.ClaimJoined
import GoSem.ClaimMapViews
import Derived.JoinedTies
import Derived.KernelRfl
namespace Go.Proofs.Ytkekibnhmfmhmaa
/- THE CELL 'sum', in the pinned program and in every row, IS THE sha256 OF THE DUMP (.gsa) THAT YtkekibnhmfmhmaaProg.lean LOADS. Nothing in Lean hashes anything: it is a label: what it is worth is what the hold of that sum in a sandbox is worth. -/
noncomputable def Try.pinned : Pinned := { name := "ytkekibnhmfmhmaa", sum := "b99f11901aec819a5f9005b5508e065674042f131f8c4f70a347c09d28fa4d7a", checked := Try.checked }
namespace Rows
def none {H : Type} : Left H := { results := [], args := [] }

/-- 'waysidelaw18.ProgMore': WHATEVER THE INPUT: true; the input reads as it did. -/
def progMoreSpec : ChangeSpec := { name := "progMore", fn := fun _ => fun
  | [d1, d2, d3, d4] => { results := [.lit (.bool true)], args := [d1, d2, d3, d4] }
  | _ => none }
def progMoreRow : OpenClaim := { program := "ytkekibnhmfmhmaa", sum := "b99f11901aec819a5f9005b5508e065674042f131f8c4f70a347c09d28fa4d7a", func := "wayside/waysidelaw18.ProgMore", spec := "progMore", unfollowed := true, recurses := true, apart := false }
def ProgMoreSaid : Prop := progMoreRow.holds Try.pinned (OpenSpec.ofChange progMoreSpec)

/-- ITS FALSE NEIGHBOUR: 'it returns false'. Refute it at one input. -/
def progMoreWrong : ChangeSpec := { name := "progMore", fn := fun _ => fun
  | [d1, d2, d3, d4] => { results := [.lit (.bool false)], args := [d1, d2, d3, d4] }
  | _ => none }
def ProgMoreWrongFalsely : Prop := progMoreRow.holds Try.pinned (OpenSpec.ofChange progMoreWrong)

/-- 'waysidelaw18.ProgFinds': WHATEVER THE INPUT: true; the input reads as it did. -/
def progFindsSpec : ChangeSpec := { name := "progFinds", fn := fun _ => fun
  | [d1, d2, d3, d4] => { results := [.lit (.bool true)], args := [d1, d2, d3, d4] }
  | _ => none }
def progFindsRow : OpenClaim := { program := "ytkekibnhmfmhmaa", sum := "b99f11901aec819a5f9005b5508e065674042f131f8c4f70a347c09d28fa4d7a", func := "wayside/waysidelaw18.ProgFinds", spec := "progFinds", unfollowed := true, recurses := true, apart := false }
def ProgFindsSaid : Prop := progFindsRow.holds Try.pinned (OpenSpec.ofChange progFindsSpec)

/-- ITS FALSE NEIGHBOUR: 'it returns false'. Refute it at one input. -/
def progFindsWrong : ChangeSpec := { name := "progFinds", fn := fun _ => fun
  | [d1, d2, d3, d4] => { results := [.lit (.bool false)], args := [d1, d2, d3, d4] }
  | _ => none }
def ProgFindsWrongFalsely : Prop := progFindsRow.holds Try.pinned (OpenSpec.ofChange progFindsWrong)

/-- 'waysidelaw18.ProgHits': WHATEVER THE INPUT: true; the input reads as it did. -/
def progHitsSpec : ChangeSpec := { name := "progHits", fn := fun _ => fun
  | [d1, d2, d3, d4] => { results := [.lit (.bool true)], args := [d1, d2, d3, d4] }
  | _ => none }
def progHitsRow : OpenClaim := { program := "ytkekibnhmfmhmaa", sum := "b99f11901aec819a5f9005b5508e065674042f131f8c4f70a347c09d28fa4d7a", func := "wayside/waysidelaw18.ProgHits", spec := "progHits", unfollowed := true, recurses := true, apart := false }
def ProgHitsSaid : Prop := progHitsRow.holds Try.pinned (OpenSpec.ofChange progHitsSpec)

/-- ITS FALSE NEIGHBOUR: 'it returns false'. Refute it at one input. -/
def progHitsWrong : ChangeSpec := { name := "progHits", fn := fun _ => fun
  | [d1, d2, d3, d4] => { results := [.lit (.bool false)], args := [d1, d2, d3, d4] }
  | _ => none }
def ProgHitsWrongFalsely : Prop := progHitsRow.holds Try.pinned (OpenSpec.ofChange progHitsWrong)

/-- 'waysidelaw18.ProgNear': WHATEVER THE INPUT: true; the input reads as it did. -/
def progNearSpec : ChangeSpec := { name := "progNear", fn := fun _ => fun
  | [d1, d2, d3] => { results := [.lit (.bool true)], args := [d1, d2, d3] }
  | _ => none }
def progNearRow : OpenClaim := { program := "ytkekibnhmfmhmaa", sum := "b99f11901aec819a5f9005b5508e065674042f131f8c4f70a347c09d28fa4d7a", func := "wayside/waysidelaw18.ProgNear", spec := "progNear", unfollowed := true, recurses := true, apart := false }
def ProgNearSaid : Prop := progNearRow.holds Try.pinned (OpenSpec.ofChange progNearSpec)

/-- ITS FALSE NEIGHBOUR: 'it returns false'. Refute it at one input. -/
def progNearWrong : ChangeSpec := { name := "progNear", fn := fun _ => fun
  | [d1, d2, d3] => { results := [.lit (.bool false)], args := [d1, d2, d3] }
  | _ => none }
def ProgNearWrongFalsely : Prop := progNearRow.holds Try.pinned (OpenSpec.ofChange progNearWrong)

/- THE SECOND FORM. 'bulk': how many values and letters a reading holds, each counted each time it is reached (what is shared counts as often as it is met; a slice's spare places count too). A statement '..UptoSaid' is the law's where the arguments, and the package variables that the reading takes, are together of bulk at most 1048576: NARROWER than '..Said'. Prove '..Said' where nothing that the law and all that it calls make is longer than what came in: it says more and counts as full. Else prove '..UptoSaid'. A law counts once. -/
mutual
def uptoBulk {H : Type} : DataW H → Nat
  | .lit (.string bytes) => bytes.length + 1
  | .lit _ => 1
  | .nil => 1
  | .ptr d => uptoBulk d + 1
  | .slice elems spare => uptoBulkAll elems + uptoBulkAll spare + 1
  | .agg parts => uptoBulkAll parts + 1
  | .iface _ d => uptoBulk d + 1
  | .map entries => uptoBulkEntries entries + 1
  | .held _ => 1
def uptoBulkAll {H : Type} : List (DataW H) → Nat
  | [] => 0
  | d :: r => uptoBulk d + uptoBulkAll r
def uptoBulkEntries {H : Type} : List (Lit × DataW H) → Nat
  | [] => 0
  | x :: r => uptoBulkEntry x + uptoBulkEntries r
def uptoBulkEntry {H : Type} : Lit × DataW H → Nat
  | (.string bytes, d) => bytes.length + uptoBulk d + 1
  | (_, d) => uptoBulk d + 1
 end
def uptoSmall : (H : Type) → List (DataW H) → Bool := fun _ ds => decide (uptoBulkAll ds ≤ 1048576)
def OpenSpec.upto (s : _root_.Go.ChangeSpec) : _root_.Go.OpenSpec := { _root_.Go.OpenSpec.ofChange s with cond := some uptoSmall }

/-- 'waysidelaw18.ProgMore', WHERE WHAT IT READS IS OF BULK AT MOST 1048576: true; the input reads as it did. -/
def progMoreUptoRow : OpenClaim := { program := "ytkekibnhmfmhmaa", sum := "b99f11901aec819a5f9005b5508e065674042f131f8c4f70a347c09d28fa4d7a", func := "wayside/waysidelaw18.ProgMore", spec := "progMore", unfollowed := true, recurses := true, apart := false, narrowed := true }
def ProgMoreUptoSaid : Prop := progMoreUptoRow.holds Try.pinned (OpenSpec.upto progMoreSpec)

/-- 'waysidelaw18.ProgFinds', WHERE WHAT IT READS IS OF BULK AT MOST 1048576: true; the input reads as it did. -/
def progFindsUptoRow : OpenClaim := { program := "ytkekibnhmfmhmaa", sum := "b99f11901aec819a5f9005b5508e065674042f131f8c4f70a347c09d28fa4d7a", func := "wayside/waysidelaw18.ProgFinds", spec := "progFinds", unfollowed := true, recurses := true, apart := false, narrowed := true }
def ProgFindsUptoSaid : Prop := progFindsUptoRow.holds Try.pinned (OpenSpec.upto progFindsSpec)

/-- 'waysidelaw18.ProgHits', WHERE WHAT IT READS IS OF BULK AT MOST 1048576: true; the input reads as it did. -/
def progHitsUptoRow : OpenClaim := { program := "ytkekibnhmfmhmaa", sum := "b99f11901aec819a5f9005b5508e065674042f131f8c4f70a347c09d28fa4d7a", func := "wayside/waysidelaw18.ProgHits", spec := "progHits", unfollowed := true, recurses := true, apart := false, narrowed := true }
def ProgHitsUptoSaid : Prop := progHitsUptoRow.holds Try.pinned (OpenSpec.upto progHitsSpec)

/-- 'waysidelaw18.ProgNear', WHERE WHAT IT READS IS OF BULK AT MOST 1048576: true; the input reads as it did. -/
def progNearUptoRow : OpenClaim := { program := "ytkekibnhmfmhmaa", sum := "b99f11901aec819a5f9005b5508e065674042f131f8c4f70a347c09d28fa4d7a", func := "wayside/waysidelaw18.ProgNear", spec := "progNear", unfollowed := true, recurses := true, apart := false, narrowed := true }
def ProgNearUptoSaid : Prop := progNearUptoRow.holds Try.pinned (OpenSpec.upto progNearSpec)

end Rows
end Go.Proofs.Ytkekibnhmfmhmaa
