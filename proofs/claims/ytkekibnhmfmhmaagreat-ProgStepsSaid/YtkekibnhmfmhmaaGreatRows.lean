/-
  No cell of these rows narrows 'for every input' (looked for: loops, veiled, ifaces, maps, wideKeys, modest, calm, conditions, laid).
  DERIVED. THE GIVEN ROWS OF THIS SEAT. 7 by the template 'for every input the law returns true; each argument reads behind the call as it read before'; 0 by the template 'total and deterministic' (their statements: YtkekibnhmfmhmaaGreatTotals.lean).
  GIVEN WITH THE SEED: the statements are not yours to turn. If you find one false, say at which input.
  Laid BY PROGRAM, IN A SANDBOX (cutbox-rows.mjs): the forced cells as the released guide's own fill.sh prints them over the translation 2dca7c049cf634cc… (all of the seat's roots in one cut). By AI agents, Wed Nov 11 2026. No macro, syntax, notation, axiom, sorry.
-/
import Derived.Test.YtkekibnhmfmhmaaGreatChecked
import GoSem.Claim
import GoSem.ClaimJoined
import GoSem.ClaimMapViews
import Derived.JoinedTies
import Derived.KernelRfl
namespace Go.Proofs.YtkekibnhmfmhmaaGreat
/- THE CELL 'sum', in the pinned program and in every row, IS THE sha256 OF THE DUMP (.gsa) THAT YtkekibnhmfmhmaaGreatProg.lean LOADS. Nothing in Lean hashes anything: it is a label: what it is worth is what the hold of that sum in a sandbox is worth. -/
noncomputable def Tryz.pinned : Pinned := { name := "ytkekibnhmfmhmaagreat", sum := "2dca7c049cf634cc3ceff83cd42323933bd975195399c944e7ff6758c4ab24c9", checked := Tryz.checked }
namespace Rows
def none {H : Type} : Left H := { results := [], args := [] }

/-- 'waysidelaw18.ProgDone': WHATEVER THE INPUT: true; the input reads as it did. -/
def progDoneSpec : ChangeSpec := { name := "progDone", fn := fun _ => fun
  | [d1, d2, d3, d4] => { results := [.lit (.bool true)], args := [d1, d2, d3, d4] }
  | _ => none }
def progDoneRow : OpenClaim := { program := "ytkekibnhmfmhmaagreat", sum := "2dca7c049cf634cc3ceff83cd42323933bd975195399c944e7ff6758c4ab24c9", func := "wayside/waysidelaw18.ProgDone", spec := "progDone", unfollowed := true, recurses := true, apart := false }
def ProgDoneSaid : Prop := progDoneRow.holds Tryz.pinned (OpenSpec.ofChange progDoneSpec)

/-- ITS FALSE NEIGHBOUR: 'it returns false'. Refute it at one input. -/
def progDoneWrong : ChangeSpec := { name := "progDone", fn := fun _ => fun
  | [d1, d2, d3, d4] => { results := [.lit (.bool false)], args := [d1, d2, d3, d4] }
  | _ => none }
def ProgDoneWrongFalsely : Prop := progDoneRow.holds Tryz.pinned (OpenSpec.ofChange progDoneWrong)

/-- 'waysidelaw18.ProgSteps': WHATEVER THE INPUT: true; the input reads as it did. -/
def progStepsSpec : ChangeSpec := { name := "progSteps", fn := fun _ => fun
  | [d1, d2, d3, d4, d5] => { results := [.lit (.bool true)], args := [d1, d2, d3, d4, d5] }
  | _ => none }
def progStepsRow : OpenClaim := { program := "ytkekibnhmfmhmaagreat", sum := "2dca7c049cf634cc3ceff83cd42323933bd975195399c944e7ff6758c4ab24c9", func := "wayside/waysidelaw18.ProgSteps", spec := "progSteps", unfollowed := true, recurses := true, apart := false }
def ProgStepsSaid : Prop := progStepsRow.holds Tryz.pinned (OpenSpec.ofChange progStepsSpec)

/-- ITS FALSE NEIGHBOUR: 'it returns false'. Refute it at one input. -/
def progStepsWrong : ChangeSpec := { name := "progSteps", fn := fun _ => fun
  | [d1, d2, d3, d4, d5] => { results := [.lit (.bool false)], args := [d1, d2, d3, d4, d5] }
  | _ => none }
def ProgStepsWrongFalsely : Prop := progStepsRow.holds Tryz.pinned (OpenSpec.ofChange progStepsWrong)

/-- 'waysidelaw09.NearHits': WHATEVER THE INPUT: true; the input reads as it did. -/
def nearHitsSpec : ChangeSpec := { name := "nearHits", fn := fun _ => fun
  | [d1, d2, d3, d4, d5] => { results := [.lit (.bool true)], args := [d1, d2, d3, d4, d5] }
  | _ => none }
def nearHitsRow : OpenClaim := { program := "ytkekibnhmfmhmaagreat", sum := "2dca7c049cf634cc3ceff83cd42323933bd975195399c944e7ff6758c4ab24c9", func := "wayside/waysidelaw09.NearHits", spec := "nearHits", inPlace := ["internal/bytealg.abigen_runtime_cmpstring"], unfollowed := true, recurses := true, apart := false }
def NearHitsSaid : Prop := nearHitsRow.holds Tryz.pinned (OpenSpec.ofChange nearHitsSpec)

/-- ITS FALSE NEIGHBOUR: 'it returns false'. Refute it at one input. -/
def nearHitsWrong : ChangeSpec := { name := "nearHits", fn := fun _ => fun
  | [d1, d2, d3, d4, d5] => { results := [.lit (.bool false)], args := [d1, d2, d3, d4, d5] }
  | _ => none }
def NearHitsWrongFalsely : Prop := nearHitsRow.holds Tryz.pinned (OpenSpec.ofChange nearHitsWrong)

/-- 'waysidelaw09.NearCounts': WHATEVER THE INPUT: true; the input reads as it did. -/
def nearCountsSpec : ChangeSpec := { name := "nearCounts", fn := fun _ => fun
  | [d1, d2, d3, d4] => { results := [.lit (.bool true)], args := [d1, d2, d3, d4] }
  | _ => none }
def nearCountsRow : OpenClaim := { program := "ytkekibnhmfmhmaagreat", sum := "2dca7c049cf634cc3ceff83cd42323933bd975195399c944e7ff6758c4ab24c9", func := "wayside/waysidelaw09.NearCounts", spec := "nearCounts", inPlace := ["internal/bytealg.abigen_runtime_cmpstring"], unfollowed := true, recurses := true, apart := false }
def NearCountsSaid : Prop := nearCountsRow.holds Tryz.pinned (OpenSpec.ofChange nearCountsSpec)

/-- ITS FALSE NEIGHBOUR: 'it returns false'. Refute it at one input. -/
def nearCountsWrong : ChangeSpec := { name := "nearCounts", fn := fun _ => fun
  | [d1, d2, d3, d4] => { results := [.lit (.bool false)], args := [d1, d2, d3, d4] }
  | _ => none }
def NearCountsWrongFalsely : Prop := nearCountsRow.holds Tryz.pinned (OpenSpec.ofChange nearCountsWrong)

/-- 'waysidelaw09.NearWider': WHATEVER THE INPUT: true; the input reads as it did. -/
def nearWiderSpec : ChangeSpec := { name := "nearWider", fn := fun _ => fun
  | [d1, d2, d3, d4, d5, d6] => { results := [.lit (.bool true)], args := [d1, d2, d3, d4, d5, d6] }
  | _ => none }
def nearWiderRow : OpenClaim := { program := "ytkekibnhmfmhmaagreat", sum := "2dca7c049cf634cc3ceff83cd42323933bd975195399c944e7ff6758c4ab24c9", func := "wayside/waysidelaw09.NearWider", spec := "nearWider", inPlace := ["internal/bytealg.abigen_runtime_cmpstring"], unfollowed := true, recurses := true, apart := false }
def NearWiderSaid : Prop := nearWiderRow.holds Tryz.pinned (OpenSpec.ofChange nearWiderSpec)

/-- ITS FALSE NEIGHBOUR: 'it returns false'. Refute it at one input. -/
def nearWiderWrong : ChangeSpec := { name := "nearWider", fn := fun _ => fun
  | [d1, d2, d3, d4, d5, d6] => { results := [.lit (.bool false)], args := [d1, d2, d3, d4, d5, d6] }
  | _ => none }
def NearWiderWrongFalsely : Prop := nearWiderRow.holds Tryz.pinned (OpenSpec.ofChange nearWiderWrong)

/-- 'waysidelaw09.NearFewer': WHATEVER THE INPUT: true; the input reads as it did. -/
def nearFewerSpec : ChangeSpec := { name := "nearFewer", fn := fun _ => fun
  | [d1, d2, d3, d4, d5, d6] => { results := [.lit (.bool true)], args := [d1, d2, d3, d4, d5, d6] }
  | _ => none }
def nearFewerRow : OpenClaim := { program := "ytkekibnhmfmhmaagreat", sum := "2dca7c049cf634cc3ceff83cd42323933bd975195399c944e7ff6758c4ab24c9", func := "wayside/waysidelaw09.NearFewer", spec := "nearFewer", inPlace := ["internal/bytealg.abigen_runtime_cmpstring"], unfollowed := true, recurses := true, apart := false }
def NearFewerSaid : Prop := nearFewerRow.holds Tryz.pinned (OpenSpec.ofChange nearFewerSpec)

/-- ITS FALSE NEIGHBOUR: 'it returns false'. Refute it at one input. -/
def nearFewerWrong : ChangeSpec := { name := "nearFewer", fn := fun _ => fun
  | [d1, d2, d3, d4, d5, d6] => { results := [.lit (.bool false)], args := [d1, d2, d3, d4, d5, d6] }
  | _ => none }
def NearFewerWrongFalsely : Prop := nearFewerRow.holds Tryz.pinned (OpenSpec.ofChange nearFewerWrong)

/-- 'waysidelaw09.NearSound': WHATEVER THE INPUT: true; the input reads as it did. -/
def nearSoundSpec : ChangeSpec := { name := "nearSound", fn := fun _ => fun
  | [d1, d2, d3, d4, d5] => { results := [.lit (.bool true)], args := [d1, d2, d3, d4, d5] }
  | _ => none }
def nearSoundRow : OpenClaim := { program := "ytkekibnhmfmhmaagreat", sum := "2dca7c049cf634cc3ceff83cd42323933bd975195399c944e7ff6758c4ab24c9", func := "wayside/waysidelaw09.NearSound", spec := "nearSound", inPlace := ["internal/bytealg.abigen_runtime_cmpstring"], unfollowed := true, recurses := true, apart := false }
def NearSoundSaid : Prop := nearSoundRow.holds Tryz.pinned (OpenSpec.ofChange nearSoundSpec)

/-- ITS FALSE NEIGHBOUR: 'it returns false'. Refute it at one input. -/
def nearSoundWrong : ChangeSpec := { name := "nearSound", fn := fun _ => fun
  | [d1, d2, d3, d4, d5] => { results := [.lit (.bool false)], args := [d1, d2, d3, d4, d5] }
  | _ => none }
def NearSoundWrongFalsely : Prop := nearSoundRow.holds Tryz.pinned (OpenSpec.ofChange nearSoundWrong)

/- THE SECOND FORM. 'bulk': how many values and letters a reading holds, each counted each time it is reached (what is shared counts as often as it is met; a slice's spare places count too). A statement '..UptoSaid' is the law's where the arguments, and the package variables that the reading takes, are together of bulk at most 1048576: NARROWER than '..Said'. Prove '..Said' where nothing that the law and all that it calls make is longer than what came in: it says more and counts as full. Else prove '..UptoSaid'. A law counts once. -/
mutual
def uptoBulk {H : Type} : DataW H → Nat
  | .lit (.string bytes) => bytes.length + 1
  | .lit _ => 1
  | .nil => 1
  | .ptr d => uptoBulk d + 1
  | .slice elems spare => uptoBulkAll elems + uptoBulkAll spare + 1
  | .agg parts => uptoBulkAll parts + 1
  | .iface _ d => uptoBulk d + 1
  | .map entries => uptoBulkEntries entries + 1
  | .held _ => 1
def uptoBulkAll {H : Type} : List (DataW H) → Nat
  | [] => 0
  | d :: r => uptoBulk d + uptoBulkAll r
def uptoBulkEntries {H : Type} : List (Lit × DataW H) → Nat
  | [] => 0
  | x :: r => uptoBulkEntry x + uptoBulkEntries r
def uptoBulkEntry {H : Type} : Lit × DataW H → Nat
  | (.string bytes, d) => bytes.length + uptoBulk d + 1
  | (_, d) => uptoBulk d + 1
 end
def uptoSmall : (H : Type) → List (DataW H) → Bool := fun _ ds => decide (uptoBulkAll ds ≤ 1048576)
def OpenSpec.upto (s : _root_.Go.ChangeSpec) : _root_.Go.OpenSpec := { _root_.Go.OpenSpec.ofChange s with cond := some uptoSmall }

/-- 'waysidelaw18.ProgDone', WHERE WHAT IT READS IS OF BULK AT MOST 1048576: true; the input reads as it did. -/
def progDoneUptoRow : OpenClaim := { program := "ytkekibnhmfmhmaagreat", sum := "2dca7c049cf634cc3ceff83cd42323933bd975195399c944e7ff6758c4ab24c9", func := "wayside/waysidelaw18.ProgDone", spec := "progDone", unfollowed := true, recurses := true, apart := false, narrowed := true }
def ProgDoneUptoSaid : Prop := progDoneUptoRow.holds Tryz.pinned (OpenSpec.upto progDoneSpec)

/-- 'waysidelaw18.ProgSteps', WHERE WHAT IT READS IS OF BULK AT MOST 1048576: true; the input reads as it did. -/
def progStepsUptoRow : OpenClaim := { program := "ytkekibnhmfmhmaagreat", sum := "2dca7c049cf634cc3ceff83cd42323933bd975195399c944e7ff6758c4ab24c9", func := "wayside/waysidelaw18.ProgSteps", spec := "progSteps", unfollowed := true, recurses := true, apart := false, narrowed := true }
def ProgStepsUptoSaid : Prop := progStepsUptoRow.holds Tryz.pinned (OpenSpec.upto progStepsSpec)

/-- 'waysidelaw09.NearHits', WHERE WHAT IT READS IS OF BULK AT MOST 1048576: true; the input reads as it did. -/
def nearHitsUptoRow : OpenClaim := { program := "ytkekibnhmfmhmaagreat", sum := "2dca7c049cf634cc3ceff83cd42323933bd975195399c944e7ff6758c4ab24c9", func := "wayside/waysidelaw09.NearHits", spec := "nearHits", inPlace := ["internal/bytealg.abigen_runtime_cmpstring"], unfollowed := true, recurses := true, apart := false, narrowed := true }
def NearHitsUptoSaid : Prop := nearHitsUptoRow.holds Tryz.pinned (OpenSpec.upto nearHitsSpec)

/-- 'waysidelaw09.NearCounts', WHERE WHAT IT READS IS OF BULK AT MOST 1048576: true; the input reads as it did. -/
def nearCountsUptoRow : OpenClaim := { program := "ytkekibnhmfmhmaagreat", sum := "2dca7c049cf634cc3ceff83cd42323933bd975195399c944e7ff6758c4ab24c9", func := "wayside/waysidelaw09.NearCounts", spec := "nearCounts", inPlace := ["internal/bytealg.abigen_runtime_cmpstring"], unfollowed := true, recurses := true, apart := false, narrowed := true }
def NearCountsUptoSaid : Prop := nearCountsUptoRow.holds Tryz.pinned (OpenSpec.upto nearCountsSpec)

/-- 'waysidelaw09.NearWider', WHERE WHAT IT READS IS OF BULK AT MOST 1048576: true; the input reads as it did. -/
def nearWiderUptoRow : OpenClaim := { program := "ytkekibnhmfmhmaagreat", sum := "2dca7c049cf634cc3ceff83cd42323933bd975195399c944e7ff6758c4ab24c9", func := "wayside/waysidelaw09.NearWider", spec := "nearWider", inPlace := ["internal/bytealg.abigen_runtime_cmpstring"], unfollowed := true, recurses := true, apart := false, narrowed := true }
def NearWiderUptoSaid : Prop := nearWiderUptoRow.holds Tryz.pinned (OpenSpec.upto nearWiderSpec)

/-- 'waysidelaw09.NearFewer', WHERE WHAT IT READS IS OF BULK AT MOST 1048576: true; the input reads as it did. -/
def nearFewerUptoRow : OpenClaim := { program := "ytkekibnhmfmhmaagreat", sum := "2dca7c049cf634cc3ceff83cd42323933bd975195399c944e7ff6758c4ab24c9", func := "wayside/waysidelaw09.NearFewer", spec := "nearFewer", inPlace := ["internal/bytealg.abigen_runtime_cmpstring"], unfollowed := true, recurses := true, apart := false, narrowed := true }
def NearFewerUptoSaid : Prop := nearFewerUptoRow.holds Tryz.pinned (OpenSpec.upto nearFewerSpec)

/-- 'waysidelaw09.NearSound', WHERE WHAT IT READS IS OF BULK AT MOST 1048576: true; the input reads as it did. -/
def nearSoundUptoRow : OpenClaim := { program := "ytkekibnhmfmhmaagreat", sum := "2dca7c049cf634cc3ceff83cd42323933bd975195399c944e7ff6758c4ab24c9", func := "wayside/waysidelaw09.NearSound", spec := "nearSound", inPlace := ["internal/bytealg.abigen_runtime_cmpstring"], unfollowed := true, recurses := true, apart := false, narrowed := true }
def NearSoundUptoSaid : Prop := nearSoundUptoRow.holds Tryz.pinned (OpenSpec.upto nearSoundSpec)

end Rows
end Go.Proofs.YtkekibnhmfmhmaaGreat
