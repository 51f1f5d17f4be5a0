/-
  No cell of these rows narrows 'for every input' (looked for: loops, veiled, ifaces, maps, wideKeys, modest, calm, conditions, laid).
  DERIVED. THE GIVEN ROWS OF THIS SEAT. 11 by the template 'for every input the law returns true; each argument reads behind the call as it read before'; 0 by the template 'total and deterministic' (their statements: YtfjhjennfiihhaaGreatTotals.lean).
  GIVEN WITH THE SEED: the statements are not yours to turn. If you find one false, say at which input.
  Laid BY PROGRAM, IN A SANDBOX (cutbox-rows.mjs): the forced cells as the released guide's own fill.sh prints them over the translation 5ffed0fc09630758… (all of the seat's roots in one cut). By AI agents, Wed Nov 11 2026. No macro, syntax, notation, axiom, sorry.
-/
import Derived.Test.YtfjhjennfiihhaaGreatChecked
import GoSem.Claim
import GoSem.ClaimJoined
import GoSem.ClaimMapViews
import Derived.JoinedTies
import Derived.KernelRfl
namespace Go.Proofs.YtfjhjennfiihhaaGreat
/- THE CELL 'sum', in the pinned program and in every row, IS THE sha256 OF THE DUMP (.gsa) THAT YtfjhjennfiihhaaGreatProg.lean LOADS. Nothing in Lean hashes anything: it is a label: what it is worth is what the hold of that sum in a sandbox is worth. -/
noncomputable def Tryz.pinned : Pinned := { name := "ytfjhjennfiihhaagreat", sum := "5ffed0fc096307587957a2069f68d94f104a0628467262b0c944c582b632627e", checked := Tryz.checked }
namespace Rows
def none {H : Type} : Left H := { results := [], args := [] }

/-- 'waysidelaw20.JobRuns': WHATEVER THE INPUT: true; the input reads as it did. -/
def jobRunsSpec : ChangeSpec := { name := "jobRuns", fn := fun _ => fun
  | [d1, d2, d3, d4, d5, d6] => { results := [.lit (.bool true)], args := [d1, d2, d3, d4, d5, d6] }
  | _ => none }
def jobRunsRow : OpenClaim := { program := "ytfjhjennfiihhaagreat", sum := "5ffed0fc096307587957a2069f68d94f104a0628467262b0c944c582b632627e", func := "wayside/waysidelaw20.JobRuns", spec := "jobRuns", inPlace := ["internal/bytealg.abigen_runtime_cmpstring"], unfollowed := true, recurses := true, plainKeys := false, apart := false }
def JobRunsSaid : Prop := jobRunsRow.holds Tryz.pinned (OpenSpec.ofChange jobRunsSpec)

/-- ITS FALSE NEIGHBOUR: 'it returns false'. Refute it at one input. -/
def jobRunsWrong : ChangeSpec := { name := "jobRuns", fn := fun _ => fun
  | [d1, d2, d3, d4, d5, d6] => { results := [.lit (.bool false)], args := [d1, d2, d3, d4, d5, d6] }
  | _ => none }
def JobRunsWrongFalsely : Prop := jobRunsRow.holds Tryz.pinned (OpenSpec.ofChange jobRunsWrong)

/-- 'waysidelaw20.JobPicks': WHATEVER THE INPUT: true; the input reads as it did. -/
def jobPicksSpec : ChangeSpec := { name := "jobPicks", fn := fun _ => fun
  | [d1, d2, d3, d4, d5, d6, d7, d8] => { results := [.lit (.bool true)], args := [d1, d2, d3, d4, d5, d6, d7, d8] }
  | _ => none }
def jobPicksRow : OpenClaim := { program := "ytfjhjennfiihhaagreat", sum := "5ffed0fc096307587957a2069f68d94f104a0628467262b0c944c582b632627e", func := "wayside/waysidelaw20.JobPicks", spec := "jobPicks", inPlace := ["internal/bytealg.abigen_runtime_cmpstring"], unfollowed := true, recurses := true, plainKeys := false, apart := false }
def JobPicksSaid : Prop := jobPicksRow.holds Tryz.pinned (OpenSpec.ofChange jobPicksSpec)

/-- ITS FALSE NEIGHBOUR: 'it returns false'. Refute it at one input. -/
def jobPicksWrong : ChangeSpec := { name := "jobPicks", fn := fun _ => fun
  | [d1, d2, d3, d4, d5, d6, d7, d8] => { results := [.lit (.bool false)], args := [d1, d2, d3, d4, d5, d6, d7, d8] }
  | _ => none }
def JobPicksWrongFalsely : Prop := jobPicksRow.holds Tryz.pinned (OpenSpec.ofChange jobPicksWrong)

/-- 'waysidelaw21.NeedFits': WHATEVER THE INPUT: true; the input reads as it did. -/
def needFitsSpec : ChangeSpec := { name := "needFits", fn := fun _ => fun
  | [d1, d2, d3] => { results := [.lit (.bool true)], args := [d1, d2, d3] }
  | _ => none }
def needFitsRow : OpenClaim := { program := "ytfjhjennfiihhaagreat", sum := "5ffed0fc096307587957a2069f68d94f104a0628467262b0c944c582b632627e", func := "wayside/waysidelaw21.NeedFits", spec := "needFits", inPlace := ["internal/bytealg.abigen_runtime_cmpstring"], unfollowed := true, recurses := true, plainKeys := false, apart := false }
def NeedFitsSaid : Prop := needFitsRow.holds Tryz.pinned (OpenSpec.ofChange needFitsSpec)

/-- ITS FALSE NEIGHBOUR: 'it returns false'. Refute it at one input. -/
def needFitsWrong : ChangeSpec := { name := "needFits", fn := fun _ => fun
  | [d1, d2, d3] => { results := [.lit (.bool false)], args := [d1, d2, d3] }
  | _ => none }
def NeedFitsWrongFalsely : Prop := needFitsRow.holds Tryz.pinned (OpenSpec.ofChange needFitsWrong)

/-- 'waysidelaw21.NeedGrows': WHATEVER THE INPUT: true; the input reads as it did. -/
def needGrowsSpec : ChangeSpec := { name := "needGrows", fn := fun _ => fun
  | [d1, d2, d3, d4] => { results := [.lit (.bool true)], args := [d1, d2, d3, d4] }
  | _ => none }
def needGrowsRow : OpenClaim := { program := "ytfjhjennfiihhaagreat", sum := "5ffed0fc096307587957a2069f68d94f104a0628467262b0c944c582b632627e", func := "wayside/waysidelaw21.NeedGrows", spec := "needGrows", inPlace := ["internal/bytealg.abigen_runtime_cmpstring"], unfollowed := true, recurses := true, plainKeys := false, apart := false }
def NeedGrowsSaid : Prop := needGrowsRow.holds Tryz.pinned (OpenSpec.ofChange needGrowsSpec)

/-- ITS FALSE NEIGHBOUR: 'it returns false'. Refute it at one input. -/
def needGrowsWrong : ChangeSpec := { name := "needGrows", fn := fun _ => fun
  | [d1, d2, d3, d4] => { results := [.lit (.bool false)], args := [d1, d2, d3, d4] }
  | _ => none }
def NeedGrowsWrongFalsely : Prop := needGrowsRow.holds Tryz.pinned (OpenSpec.ofChange needGrowsWrong)

/-- 'waysidelaw21.NeedSums': WHATEVER THE INPUT: true; the input reads as it did. -/
def needSumsSpec : ChangeSpec := { name := "needSums", fn := fun _ => fun
  | [d1, d2, d3] => { results := [.lit (.bool true)], args := [d1, d2, d3] }
  | _ => none }
def needSumsRow : OpenClaim := { program := "ytfjhjennfiihhaagreat", sum := "5ffed0fc096307587957a2069f68d94f104a0628467262b0c944c582b632627e", func := "wayside/waysidelaw21.NeedSums", spec := "needSums", inPlace := ["internal/bytealg.abigen_runtime_cmpstring"], unfollowed := true, recurses := true, plainKeys := false, apart := false }
def NeedSumsSaid : Prop := needSumsRow.holds Tryz.pinned (OpenSpec.ofChange needSumsSpec)

/-- ITS FALSE NEIGHBOUR: 'it returns false'. Refute it at one input. -/
def needSumsWrong : ChangeSpec := { name := "needSums", fn := fun _ => fun
  | [d1, d2, d3] => { results := [.lit (.bool false)], args := [d1, d2, d3] }
  | _ => none }
def NeedSumsWrongFalsely : Prop := needSumsRow.holds Tryz.pinned (OpenSpec.ofChange needSumsWrong)

/-- 'waysidelaw21.NeedSteps': WHATEVER THE INPUT: true; the input reads as it did. -/
def needStepsSpec : ChangeSpec := { name := "needSteps", fn := fun _ => fun
  | [d1, d2, d3, d4] => { results := [.lit (.bool true)], args := [d1, d2, d3, d4] }
  | _ => none }
def needStepsRow : OpenClaim := { program := "ytfjhjennfiihhaagreat", sum := "5ffed0fc096307587957a2069f68d94f104a0628467262b0c944c582b632627e", func := "wayside/waysidelaw21.NeedSteps", spec := "needSteps", inPlace := ["internal/bytealg.abigen_runtime_cmpstring"], unfollowed := true, recurses := true, plainKeys := false, apart := false }
def NeedStepsSaid : Prop := needStepsRow.holds Tryz.pinned (OpenSpec.ofChange needStepsSpec)

/-- ITS FALSE NEIGHBOUR: 'it returns false'. Refute it at one input. -/
def needStepsWrong : ChangeSpec := { name := "needSteps", fn := fun _ => fun
  | [d1, d2, d3, d4] => { results := [.lit (.bool false)], args := [d1, d2, d3, d4] }
  | _ => none }
def NeedStepsWrongFalsely : Prop := needStepsRow.holds Tryz.pinned (OpenSpec.ofChange needStepsWrong)

/-- 'waysidelaw21.NeedWorkers': WHATEVER THE INPUT: true; the input reads as it did. -/
def needWorkersSpec : ChangeSpec := { name := "needWorkers", fn := fun _ => fun
  | [d1, d2, d3, d4, d5] => { results := [.lit (.bool true)], args := [d1, d2, d3, d4, d5] }
  | _ => none }
def needWorkersRow : OpenClaim := { program := "ytfjhjennfiihhaagreat", sum := "5ffed0fc096307587957a2069f68d94f104a0628467262b0c944c582b632627e", func := "wayside/waysidelaw21.NeedWorkers", spec := "needWorkers", inPlace := ["internal/bytealg.abigen_runtime_cmpstring"], unfollowed := true, recurses := true, plainKeys := false, apart := false }
def NeedWorkersSaid : Prop := needWorkersRow.holds Tryz.pinned (OpenSpec.ofChange needWorkersSpec)

/-- ITS FALSE NEIGHBOUR: 'it returns false'. Refute it at one input. -/
def needWorkersWrong : ChangeSpec := { name := "needWorkers", fn := fun _ => fun
  | [d1, d2, d3, d4, d5] => { results := [.lit (.bool false)], args := [d1, d2, d3, d4, d5] }
  | _ => none }
def NeedWorkersWrongFalsely : Prop := needWorkersRow.holds Tryz.pinned (OpenSpec.ofChange needWorkersWrong)

/-- 'waysidelaw20.JobAnswers': WHATEVER THE INPUT: true; the input reads as it did. -/
def jobAnswersSpec : ChangeSpec := { name := "jobAnswers", fn := fun _ => fun
  | [d1, d2, d3, d4, d5, d6] => { results := [.lit (.bool true)], args := [d1, d2, d3, d4, d5, d6] }
  | _ => none }
def jobAnswersRow : OpenClaim := { program := "ytfjhjennfiihhaagreat", sum := "5ffed0fc096307587957a2069f68d94f104a0628467262b0c944c582b632627e", func := "wayside/waysidelaw20.JobAnswers", spec := "jobAnswers", inPlace := ["internal/bytealg.abigen_runtime_cmpstring"], unfollowed := true, recurses := true, plainKeys := false, apart := false }
def JobAnswersSaid : Prop := jobAnswersRow.holds Tryz.pinned (OpenSpec.ofChange jobAnswersSpec)

/-- ITS FALSE NEIGHBOUR: 'it returns false'. Refute it at one input. -/
def jobAnswersWrong : ChangeSpec := { name := "jobAnswers", fn := fun _ => fun
  | [d1, d2, d3, d4, d5, d6] => { results := [.lit (.bool false)], args := [d1, d2, d3, d4, d5, d6] }
  | _ => none }
def JobAnswersWrongFalsely : Prop := jobAnswersRow.holds Tryz.pinned (OpenSpec.ofChange jobAnswersWrong)

/-- 'waysidelaw20.JobBudget': WHATEVER THE INPUT: true; the input reads as it did. -/
def jobBudgetSpec : ChangeSpec := { name := "jobBudget", fn := fun _ => fun
  | [d1, d2, d3, d4, d5, d6] => { results := [.lit (.bool true)], args := [d1, d2, d3, d4, d5, d6] }
  | _ => none }
def jobBudgetRow : OpenClaim := { program := "ytfjhjennfiihhaagreat", sum := "5ffed0fc096307587957a2069f68d94f104a0628467262b0c944c582b632627e", func := "wayside/waysidelaw20.JobBudget", spec := "jobBudget", inPlace := ["internal/bytealg.abigen_runtime_cmpstring"], unfollowed := true, recurses := true, plainKeys := false, apart := false }
def JobBudgetSaid : Prop := jobBudgetRow.holds Tryz.pinned (OpenSpec.ofChange jobBudgetSpec)

/-- ITS FALSE NEIGHBOUR: 'it returns false'. Refute it at one input. -/
def jobBudgetWrong : ChangeSpec := { name := "jobBudget", fn := fun _ => fun
  | [d1, d2, d3, d4, d5, d6] => { results := [.lit (.bool false)], args := [d1, d2, d3, d4, d5, d6] }
  | _ => none }
def JobBudgetWrongFalsely : Prop := jobBudgetRow.holds Tryz.pinned (OpenSpec.ofChange jobBudgetWrong)

/-- 'waysidelaw20.JobAsks': WHATEVER THE INPUT: true; the input reads as it did. -/
def jobAsksSpec : ChangeSpec := { name := "jobAsks", fn := fun _ => fun
  | [d1, d2, d3, d4] => { results := [.lit (.bool true)], args := [d1, d2, d3, d4] }
  | _ => none }
def jobAsksRow : OpenClaim := { program := "ytfjhjennfiihhaagreat", sum := "5ffed0fc096307587957a2069f68d94f104a0628467262b0c944c582b632627e", func := "wayside/waysidelaw20.JobAsks", spec := "jobAsks", inPlace := ["internal/bytealg.abigen_runtime_cmpstring"], unfollowed := true, recurses := true, plainKeys := false, apart := false }
def JobAsksSaid : Prop := jobAsksRow.holds Tryz.pinned (OpenSpec.ofChange jobAsksSpec)

/-- ITS FALSE NEIGHBOUR: 'it returns false'. Refute it at one input. -/
def jobAsksWrong : ChangeSpec := { name := "jobAsks", fn := fun _ => fun
  | [d1, d2, d3, d4] => { results := [.lit (.bool false)], args := [d1, d2, d3, d4] }
  | _ => none }
def JobAsksWrongFalsely : Prop := jobAsksRow.holds Tryz.pinned (OpenSpec.ofChange jobAsksWrong)

/-- 'waysidelaw20.JobHubs': WHATEVER THE INPUT: true; the input reads as it did. -/
def jobHubsSpec : ChangeSpec := { name := "jobHubs", fn := fun _ => fun
  | [d1, d2] => { results := [.lit (.bool true)], args := [d1, d2] }
  | _ => none }
def jobHubsRow : OpenClaim := { program := "ytfjhjennfiihhaagreat", sum := "5ffed0fc096307587957a2069f68d94f104a0628467262b0c944c582b632627e", func := "wayside/waysidelaw20.JobHubs", spec := "jobHubs", inPlace := ["internal/bytealg.abigen_runtime_cmpstring"], unfollowed := true, recurses := true, plainKeys := false, apart := false }
def JobHubsSaid : Prop := jobHubsRow.holds Tryz.pinned (OpenSpec.ofChange jobHubsSpec)

/-- ITS FALSE NEIGHBOUR: 'it returns false'. Refute it at one input. -/
def jobHubsWrong : ChangeSpec := { name := "jobHubs", fn := fun _ => fun
  | [d1, d2] => { results := [.lit (.bool false)], args := [d1, d2] }
  | _ => none }
def JobHubsWrongFalsely : Prop := jobHubsRow.holds Tryz.pinned (OpenSpec.ofChange jobHubsWrong)

/- THE SECOND FORM. 'bulk': how many values and letters a reading holds, each counted each time it is reached (what is shared counts as often as it is met; a slice's spare places count too). A statement '..UptoSaid' is the law's where the arguments, and the package variables that the reading takes, are together of bulk at most 1048576: NARROWER than '..Said'. Prove '..Said' where nothing that the law and all that it calls make is longer than what came in: it says more and counts as full. Else prove '..UptoSaid'. A law counts once. -/
mutual
def uptoBulk {H : Type} : DataW H → Nat
  | .lit (.string bytes) => bytes.length + 1
  | .lit _ => 1
  | .nil => 1
  | .ptr d => uptoBulk d + 1
  | .slice elems spare => uptoBulkAll elems + uptoBulkAll spare + 1
  | .agg parts => uptoBulkAll parts + 1
  | .iface _ d => uptoBulk d + 1
  | .map entries => uptoBulkEntries entries + 1
  | .held _ => 1
def uptoBulkAll {H : Type} : List (DataW H) → Nat
  | [] => 0
  | d :: r => uptoBulk d + uptoBulkAll r
def uptoBulkEntries {H : Type} : List (Lit × DataW H) → Nat
  | [] => 0
  | x :: r => uptoBulkEntry x + uptoBulkEntries r
def uptoBulkEntry {H : Type} : Lit × DataW H → Nat
  | (.string bytes, d) => bytes.length + uptoBulk d + 1
  | (_, d) => uptoBulk d + 1
 end
def uptoSmall : (H : Type) → List (DataW H) → Bool := fun _ ds => decide (uptoBulkAll ds ≤ 1048576)
def OpenSpec.upto (s : _root_.Go.ChangeSpec) : _root_.Go.OpenSpec := { _root_.Go.OpenSpec.ofChange s with cond := some uptoSmall }

/-- 'waysidelaw20.JobRuns', WHERE WHAT IT READS IS OF BULK AT MOST 1048576: true; the input reads as it did. -/
def jobRunsUptoRow : OpenClaim := { program := "ytfjhjennfiihhaagreat", sum := "5ffed0fc096307587957a2069f68d94f104a0628467262b0c944c582b632627e", func := "wayside/waysidelaw20.JobRuns", spec := "jobRuns", inPlace := ["internal/bytealg.abigen_runtime_cmpstring"], unfollowed := true, recurses := true, plainKeys := false, apart := false, narrowed := true }
def JobRunsUptoSaid : Prop := jobRunsUptoRow.holds Tryz.pinned (OpenSpec.upto jobRunsSpec)

/-- 'waysidelaw20.JobPicks', WHERE WHAT IT READS IS OF BULK AT MOST 1048576: true; the input reads as it did. -/
def jobPicksUptoRow : OpenClaim := { program := "ytfjhjennfiihhaagreat", sum := "5ffed0fc096307587957a2069f68d94f104a0628467262b0c944c582b632627e", func := "wayside/waysidelaw20.JobPicks", spec := "jobPicks", inPlace := ["internal/bytealg.abigen_runtime_cmpstring"], unfollowed := true, recurses := true, plainKeys := false, apart := false, narrowed := true }
def JobPicksUptoSaid : Prop := jobPicksUptoRow.holds Tryz.pinned (OpenSpec.upto jobPicksSpec)

/-- 'waysidelaw21.NeedFits', WHERE WHAT IT READS IS OF BULK AT MOST 1048576: true; the input reads as it did. -/
def needFitsUptoRow : OpenClaim := { program := "ytfjhjennfiihhaagreat", sum := "5ffed0fc096307587957a2069f68d94f104a0628467262b0c944c582b632627e", func := "wayside/waysidelaw21.NeedFits", spec := "needFits", inPlace := ["internal/bytealg.abigen_runtime_cmpstring"], unfollowed := true, recurses := true, plainKeys := false, apart := false, narrowed := true }
def NeedFitsUptoSaid : Prop := needFitsUptoRow.holds Tryz.pinned (OpenSpec.upto needFitsSpec)

/-- 'waysidelaw21.NeedGrows', WHERE WHAT IT READS IS OF BULK AT MOST 1048576: true; the input reads as it did. -/
def needGrowsUptoRow : OpenClaim := { program := "ytfjhjennfiihhaagreat", sum := "5ffed0fc096307587957a2069f68d94f104a0628467262b0c944c582b632627e", func := "wayside/waysidelaw21.NeedGrows", spec := "needGrows", inPlace := ["internal/bytealg.abigen_runtime_cmpstring"], unfollowed := true, recurses := true, plainKeys := false, apart := false, narrowed := true }
def NeedGrowsUptoSaid : Prop := needGrowsUptoRow.holds Tryz.pinned (OpenSpec.upto needGrowsSpec)

/-- 'waysidelaw21.NeedSums', WHERE WHAT IT READS IS OF BULK AT MOST 1048576: true; the input reads as it did. -/
def needSumsUptoRow : OpenClaim := { program := "ytfjhjennfiihhaagreat", sum := "5ffed0fc096307587957a2069f68d94f104a0628467262b0c944c582b632627e", func := "wayside/waysidelaw21.NeedSums", spec := "needSums", inPlace := ["internal/bytealg.abigen_runtime_cmpstring"], unfollowed := true, recurses := true, plainKeys := false, apart := false, narrowed := true }
def NeedSumsUptoSaid : Prop := needSumsUptoRow.holds Tryz.pinned (OpenSpec.upto needSumsSpec)

/-- 'waysidelaw21.NeedSteps', WHERE WHAT IT READS IS OF BULK AT MOST 1048576: true; the input reads as it did. -/
def needStepsUptoRow : OpenClaim := { program := "ytfjhjennfiihhaagreat", sum := "5ffed0fc096307587957a2069f68d94f104a0628467262b0c944c582b632627e", func := "wayside/waysidelaw21.NeedSteps", spec := "needSteps", inPlace := ["internal/bytealg.abigen_runtime_cmpstring"], unfollowed := true, recurses := true, plainKeys := false, apart := false, narrowed := true }
def NeedStepsUptoSaid : Prop := needStepsUptoRow.holds Tryz.pinned (OpenSpec.upto needStepsSpec)

/-- 'waysidelaw21.NeedWorkers', WHERE WHAT IT READS IS OF BULK AT MOST 1048576: true; the input reads as it did. -/
def needWorkersUptoRow : OpenClaim := { program := "ytfjhjennfiihhaagreat", sum := "5ffed0fc096307587957a2069f68d94f104a0628467262b0c944c582b632627e", func := "wayside/waysidelaw21.NeedWorkers", spec := "needWorkers", inPlace := ["internal/bytealg.abigen_runtime_cmpstring"], unfollowed := true, recurses := true, plainKeys := false, apart := false, narrowed := true }
def NeedWorkersUptoSaid : Prop := needWorkersUptoRow.holds Tryz.pinned (OpenSpec.upto needWorkersSpec)

/-- 'waysidelaw20.JobAnswers', WHERE WHAT IT READS IS OF BULK AT MOST 1048576: true; the input reads as it did. -/
def jobAnswersUptoRow : OpenClaim := { program := "ytfjhjennfiihhaagreat", sum := "5ffed0fc096307587957a2069f68d94f104a0628467262b0c944c582b632627e", func := "wayside/waysidelaw20.JobAnswers", spec := "jobAnswers", inPlace := ["internal/bytealg.abigen_runtime_cmpstring"], unfollowed := true, recurses := true, plainKeys := false, apart := false, narrowed := true }
def JobAnswersUptoSaid : Prop := jobAnswersUptoRow.holds Tryz.pinned (OpenSpec.upto jobAnswersSpec)

/-- 'waysidelaw20.JobBudget', WHERE WHAT IT READS IS OF BULK AT MOST 1048576: true; the input reads as it did. -/
def jobBudgetUptoRow : OpenClaim := { program := "ytfjhjennfiihhaagreat", sum := "5ffed0fc096307587957a2069f68d94f104a0628467262b0c944c582b632627e", func := "wayside/waysidelaw20.JobBudget", spec := "jobBudget", inPlace := ["internal/bytealg.abigen_runtime_cmpstring"], unfollowed := true, recurses := true, plainKeys := false, apart := false, narrowed := true }
def JobBudgetUptoSaid : Prop := jobBudgetUptoRow.holds Tryz.pinned (OpenSpec.upto jobBudgetSpec)

/-- 'waysidelaw20.JobAsks', WHERE WHAT IT READS IS OF BULK AT MOST 1048576: true; the input reads as it did. -/
def jobAsksUptoRow : OpenClaim := { program := "ytfjhjennfiihhaagreat", sum := "5ffed0fc096307587957a2069f68d94f104a0628467262b0c944c582b632627e", func := "wayside/waysidelaw20.JobAsks", spec := "jobAsks", inPlace := ["internal/bytealg.abigen_runtime_cmpstring"], unfollowed := true, recurses := true, plainKeys := false, apart := false, narrowed := true }
def JobAsksUptoSaid : Prop := jobAsksUptoRow.holds Tryz.pinned (OpenSpec.upto jobAsksSpec)

/-- 'waysidelaw20.JobHubs', WHERE WHAT IT READS IS OF BULK AT MOST 1048576: true; the input reads as it did. -/
def jobHubsUptoRow : OpenClaim := { program := "ytfjhjennfiihhaagreat", sum := "5ffed0fc096307587957a2069f68d94f104a0628467262b0c944c582b632627e", func := "wayside/waysidelaw20.JobHubs", spec := "jobHubs", inPlace := ["internal/bytealg.abigen_runtime_cmpstring"], unfollowed := true, recurses := true, plainKeys := false, apart := false, narrowed := true }
def JobHubsUptoSaid : Prop := jobHubsUptoRow.holds Tryz.pinned (OpenSpec.upto jobHubsSpec)

end Rows
end Go.Proofs.YtfjhjennfiihhaaGreat
