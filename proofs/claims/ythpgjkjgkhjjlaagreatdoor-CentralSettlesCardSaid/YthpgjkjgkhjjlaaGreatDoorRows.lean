/-
  NARROWER THAN 'FOR EVERY INPUT', by the rows' own cells (each row's printed sentence says how): CentralScripts: laid · CentralEvents: laid · CentralSettles: laid · CentralCancels: laid · CentralRolls: laid · CentralTicks: laid · CentralLimits: laid.
  DERIVED. THE GIVEN ROWS OF THIS SEAT. 7 by the template 'for every input the law returns true; each argument reads behind the call as it read before'; 0 by the template 'total and deterministic' (their statements: YthpgjkjgkhjjlaaGreatDoorTotals.lean).
  GIVEN WITH THE SEED: the statements are not yours to turn. If you find one false, say at which input.
  Laid BY PROGRAM, IN A SANDBOX (cutbox-rows.mjs): the forced cells as the released guide's own fill.sh prints them over the translation 2320d69ef908a764… (all of the seat's roots in one cut). By AI agents, Wed Nov 11 2026. No macro, syntax, notation, axiom, sorry.
-/
import Derived.Test.YthpgjkjgkhjjlaaGreatDoorChecked
import GoSem.Claim
import GoSem.ClaimJoined
import GoSem.ClaimMapViews
import Derived.JoinedTies
import Derived.KernelRfl
namespace Go.Proofs.YthpgjkjgkhjjlaaGreatDoor
/- THE CELL 'sum', in the pinned program and in every row, IS THE sha256 OF THE DUMP (.gsa) THAT YthpgjkjgkhjjlaaGreatDoorProg.lean LOADS. Nothing in Lean hashes anything: it is a label: what it is worth is what the hold of that sum in a sandbox is worth. -/
noncomputable def Tryz.pinned : Pinned := { name := "ythpgjkjgkhjjlaagreatdoor", sum := "2320d69ef908a7646f95f1759960a8d402c2a6015ee00ab61861ea83cf8ec7e7", checked := Tryz.checked }
namespace Rows
def none {H : Type} : Left H := { results := [], args := [] }

/- WHAT THE LISTED PACKAGE-LEVEL VARIABLES READ AS WHEN THE CALL BEGINS. Each datum BY PROGRAM (the guide's laid-datum.mjs) off the statement by which the dump's own 'gosem.cut.vars' lays the variable. In a bare row this is a premise. The card (YthpgjkjgkhjjlaaGreatDoorCards.lean) ties it to the program's text. -/
def laid_clusterlocks_mode_together {H : Type} : DataW H := .agg [.agg [.lit (.bool true), .lit (.bool true), .lit (.bool true), .lit (.bool true), .lit (.bool false)], .agg [.lit (.bool true), .lit (.bool true), .lit (.bool false), .lit (.bool false), .lit (.bool false)], .agg [.lit (.bool true), .lit (.bool false), .lit (.bool true), .lit (.bool false), .lit (.bool false)], .agg [.lit (.bool true), .lit (.bool false), .lit (.bool false), .lit (.bool false), .lit (.bool false)], .agg [.lit (.bool false), .lit (.bool false), .lit (.bool false), .lit (.bool false), .lit (.bool false)]]

/-- 'clusterlockslaw15.CentralScripts': WHATEVER THE INPUT: true; the input reads as it did. -/
def centralScriptsSpec : ChangeSpec := { name := "centralScripts", fn := fun _ => fun
  | [d] => { results := [.lit (.bool true)], args := [d] }
  | _ => none }
def centralScriptsRow : OpenClaim := { program := "ythpgjkjgkhjjlaagreatdoor", sum := "2320d69ef908a7646f95f1759960a8d402c2a6015ee00ab61861ea83cf8ec7e7", func := "clusterlocks/clusterlockslaw15.CentralScripts", spec := "centralScripts", inPlace := ["internal/bytealg.abigen_runtime_cmpstring", "slices.overlaps[clusterlocks/api.Process]"], unfollowed := true, recurses := true, named := ["clusterlocks/mode.together"], apart := false, laid := [("clusterlocks/mode.together", laid_clusterlocks_mode_together)] }
def CentralScriptsSaid : Prop := centralScriptsRow.holds Tryz.pinned (OpenSpec.ofChange centralScriptsSpec)

/-- ITS FALSE NEIGHBOUR: 'it returns false'. Refute it at one input. -/
def centralScriptsWrong : ChangeSpec := { name := "centralScripts", fn := fun _ => fun
  | [d] => { results := [.lit (.bool false)], args := [d] }
  | _ => none }
def CentralScriptsWrongFalsely : Prop := centralScriptsRow.holds Tryz.pinned (OpenSpec.ofChange centralScriptsWrong)

/-- 'clusterlockslaw15.CentralEvents': WHATEVER THE INPUT: true; the input reads as it did. -/
def centralEventsSpec : ChangeSpec := { name := "centralEvents", fn := fun _ => fun
  | [d1, d2] => { results := [.lit (.bool true)], args := [d1, d2] }
  | _ => none }
def centralEventsRow : OpenClaim := { program := "ythpgjkjgkhjjlaagreatdoor", sum := "2320d69ef908a7646f95f1759960a8d402c2a6015ee00ab61861ea83cf8ec7e7", func := "clusterlocks/clusterlockslaw15.CentralEvents", spec := "centralEvents", inPlace := ["internal/bytealg.abigen_runtime_cmpstring", "slices.overlaps[clusterlocks/api.Process]"], unfollowed := true, recurses := true, named := ["clusterlocks/mode.together"], apart := false, laid := [("clusterlocks/mode.together", laid_clusterlocks_mode_together)] }
def CentralEventsSaid : Prop := centralEventsRow.holds Tryz.pinned (OpenSpec.ofChange centralEventsSpec)

/-- ITS FALSE NEIGHBOUR: 'it returns false'. Refute it at one input. -/
def centralEventsWrong : ChangeSpec := { name := "centralEvents", fn := fun _ => fun
  | [d1, d2] => { results := [.lit (.bool false)], args := [d1, d2] }
  | _ => none }
def CentralEventsWrongFalsely : Prop := centralEventsRow.holds Tryz.pinned (OpenSpec.ofChange centralEventsWrong)

/-- 'clusterlockslaw15.CentralSettles': WHATEVER THE INPUT: true; the input reads as it did. -/
def centralSettlesSpec : ChangeSpec := { name := "centralSettles", fn := fun _ => fun
  | [d1, d2, d3] => { results := [.lit (.bool true)], args := [d1, d2, d3] }
  | _ => none }
def centralSettlesRow : OpenClaim := { program := "ythpgjkjgkhjjlaagreatdoor", sum := "2320d69ef908a7646f95f1759960a8d402c2a6015ee00ab61861ea83cf8ec7e7", func := "clusterlocks/clusterlockslaw15.CentralSettles", spec := "centralSettles", inPlace := ["internal/bytealg.abigen_runtime_cmpstring", "slices.overlaps[clusterlocks/api.Process]"], unfollowed := true, recurses := true, named := ["clusterlocks/mode.together"], apart := false, laid := [("clusterlocks/mode.together", laid_clusterlocks_mode_together)] }
def CentralSettlesSaid : Prop := centralSettlesRow.holds Tryz.pinned (OpenSpec.ofChange centralSettlesSpec)

/-- ITS FALSE NEIGHBOUR: 'it returns false'. Refute it at one input. -/
def centralSettlesWrong : ChangeSpec := { name := "centralSettles", fn := fun _ => fun
  | [d1, d2, d3] => { results := [.lit (.bool false)], args := [d1, d2, d3] }
  | _ => none }
def CentralSettlesWrongFalsely : Prop := centralSettlesRow.holds Tryz.pinned (OpenSpec.ofChange centralSettlesWrong)

/-- 'clusterlockslaw15.CentralCancels': WHATEVER THE INPUT: true; the input reads as it did. -/
def centralCancelsSpec : ChangeSpec := { name := "centralCancels", fn := fun _ => fun
  | [d1, d2, d3] => { results := [.lit (.bool true)], args := [d1, d2, d3] }
  | _ => none }
def centralCancelsRow : OpenClaim := { program := "ythpgjkjgkhjjlaagreatdoor", sum := "2320d69ef908a7646f95f1759960a8d402c2a6015ee00ab61861ea83cf8ec7e7", func := "clusterlocks/clusterlockslaw15.CentralCancels", spec := "centralCancels", inPlace := ["internal/bytealg.abigen_runtime_cmpstring", "slices.overlaps[clusterlocks/api.Process]"], unfollowed := true, recurses := true, named := ["clusterlocks/mode.together"], apart := false, laid := [("clusterlocks/mode.together", laid_clusterlocks_mode_together)] }
def CentralCancelsSaid : Prop := centralCancelsRow.holds Tryz.pinned (OpenSpec.ofChange centralCancelsSpec)

/-- ITS FALSE NEIGHBOUR: 'it returns false'. Refute it at one input. -/
def centralCancelsWrong : ChangeSpec := { name := "centralCancels", fn := fun _ => fun
  | [d1, d2, d3] => { results := [.lit (.bool false)], args := [d1, d2, d3] }
  | _ => none }
def CentralCancelsWrongFalsely : Prop := centralCancelsRow.holds Tryz.pinned (OpenSpec.ofChange centralCancelsWrong)

/-- 'clusterlockslaw15.CentralRolls': WHATEVER THE INPUT: true; the input reads as it did. -/
def centralRollsSpec : ChangeSpec := { name := "centralRolls", fn := fun _ => fun
  | [d1, d2, d3, d4] => { results := [.lit (.bool true)], args := [d1, d2, d3, d4] }
  | _ => none }
def centralRollsRow : OpenClaim := { program := "ythpgjkjgkhjjlaagreatdoor", sum := "2320d69ef908a7646f95f1759960a8d402c2a6015ee00ab61861ea83cf8ec7e7", func := "clusterlocks/clusterlockslaw15.CentralRolls", spec := "centralRolls", inPlace := ["internal/bytealg.abigen_runtime_cmpstring", "slices.overlaps[clusterlocks/api.Process]"], unfollowed := true, recurses := true, named := ["clusterlocks/mode.together"], apart := false, laid := [("clusterlocks/mode.together", laid_clusterlocks_mode_together)] }
def CentralRollsSaid : Prop := centralRollsRow.holds Tryz.pinned (OpenSpec.ofChange centralRollsSpec)

/-- ITS FALSE NEIGHBOUR: 'it returns false'. Refute it at one input. -/
def centralRollsWrong : ChangeSpec := { name := "centralRolls", fn := fun _ => fun
  | [d1, d2, d3, d4] => { results := [.lit (.bool false)], args := [d1, d2, d3, d4] }
  | _ => none }
def CentralRollsWrongFalsely : Prop := centralRollsRow.holds Tryz.pinned (OpenSpec.ofChange centralRollsWrong)

/-- 'clusterlockslaw15.CentralTicks': WHATEVER THE INPUT: true; the input reads as it did. -/
def centralTicksSpec : ChangeSpec := { name := "centralTicks", fn := fun _ => fun
  | [d1, d2, d3] => { results := [.lit (.bool true)], args := [d1, d2, d3] }
  | _ => none }
def centralTicksRow : OpenClaim := { program := "ythpgjkjgkhjjlaagreatdoor", sum := "2320d69ef908a7646f95f1759960a8d402c2a6015ee00ab61861ea83cf8ec7e7", func := "clusterlocks/clusterlockslaw15.CentralTicks", spec := "centralTicks", inPlace := ["internal/bytealg.abigen_runtime_cmpstring", "slices.overlaps[clusterlocks/api.Process]"], unfollowed := true, recurses := true, named := ["clusterlocks/mode.together"], apart := false, laid := [("clusterlocks/mode.together", laid_clusterlocks_mode_together)] }
def CentralTicksSaid : Prop := centralTicksRow.holds Tryz.pinned (OpenSpec.ofChange centralTicksSpec)

/-- ITS FALSE NEIGHBOUR: 'it returns false'. Refute it at one input. -/
def centralTicksWrong : ChangeSpec := { name := "centralTicks", fn := fun _ => fun
  | [d1, d2, d3] => { results := [.lit (.bool false)], args := [d1, d2, d3] }
  | _ => none }
def CentralTicksWrongFalsely : Prop := centralTicksRow.holds Tryz.pinned (OpenSpec.ofChange centralTicksWrong)

/-- 'clusterlockslaw15.CentralLimits': WHATEVER THE INPUT: true; the input reads as it did. -/
def centralLimitsSpec : ChangeSpec := { name := "centralLimits", fn := fun _ => fun
  | [d1, d2] => { results := [.lit (.bool true)], args := [d1, d2] }
  | _ => none }
def centralLimitsRow : OpenClaim := { program := "ythpgjkjgkhjjlaagreatdoor", sum := "2320d69ef908a7646f95f1759960a8d402c2a6015ee00ab61861ea83cf8ec7e7", func := "clusterlocks/clusterlockslaw15.CentralLimits", spec := "centralLimits", inPlace := ["internal/bytealg.abigen_runtime_cmpstring", "slices.overlaps[clusterlocks/api.Process]"], unfollowed := true, recurses := true, named := ["clusterlocks/mode.together"], apart := false, laid := [("clusterlocks/mode.together", laid_clusterlocks_mode_together)] }
def CentralLimitsSaid : Prop := centralLimitsRow.holds Tryz.pinned (OpenSpec.ofChange centralLimitsSpec)

/-- ITS FALSE NEIGHBOUR: 'it returns false'. Refute it at one input. -/
def centralLimitsWrong : ChangeSpec := { name := "centralLimits", fn := fun _ => fun
  | [d1, d2] => { results := [.lit (.bool false)], args := [d1, d2] }
  | _ => none }
def CentralLimitsWrongFalsely : Prop := centralLimitsRow.holds Tryz.pinned (OpenSpec.ofChange centralLimitsWrong)

/- THE SECOND FORM. 'bulk': how many values and letters a reading holds, each counted each time it is reached (what is shared counts as often as it is met; a slice's spare places count too). A statement '..UptoSaid' is the law's where the arguments, and the package variables that the reading takes, are together of bulk at most 1048576: NARROWER than '..Said'. Prove '..Said' where nothing that the law and all that it calls make is longer than what came in: it says more and counts as full. Else prove '..UptoSaid'. A law counts once. -/
mutual
def uptoBulk {H : Type} : DataW H → Nat
  | .lit (.string bytes) => bytes.length + 1
  | .lit _ => 1
  | .nil => 1
  | .ptr d => uptoBulk d + 1
  | .slice elems spare => uptoBulkAll elems + uptoBulkAll spare + 1
  | .agg parts => uptoBulkAll parts + 1
  | .iface _ d => uptoBulk d + 1
  | .map entries => uptoBulkEntries entries + 1
  | .held _ => 1
def uptoBulkAll {H : Type} : List (DataW H) → Nat
  | [] => 0
  | d :: r => uptoBulk d + uptoBulkAll r
def uptoBulkEntries {H : Type} : List (Lit × DataW H) → Nat
  | [] => 0
  | x :: r => uptoBulkEntry x + uptoBulkEntries r
def uptoBulkEntry {H : Type} : Lit × DataW H → Nat
  | (.string bytes, d) => bytes.length + uptoBulk d + 1
  | (_, d) => uptoBulk d + 1
 end
def uptoSmall : (H : Type) → List (DataW H) → Bool := fun _ ds => decide (uptoBulkAll ds ≤ 1048576)
def OpenSpec.upto (s : _root_.Go.ChangeSpec) : _root_.Go.OpenSpec := { _root_.Go.OpenSpec.ofChange s with cond := some uptoSmall }

/-- 'clusterlockslaw15.CentralScripts', WHERE WHAT IT READS IS OF BULK AT MOST 1048576: true; the input reads as it did. -/
def centralScriptsUptoRow : OpenClaim := { program := "ythpgjkjgkhjjlaagreatdoor", sum := "2320d69ef908a7646f95f1759960a8d402c2a6015ee00ab61861ea83cf8ec7e7", func := "clusterlocks/clusterlockslaw15.CentralScripts", spec := "centralScripts", inPlace := ["internal/bytealg.abigen_runtime_cmpstring", "slices.overlaps[clusterlocks/api.Process]"], unfollowed := true, recurses := true, named := ["clusterlocks/mode.together"], apart := false, laid := [("clusterlocks/mode.together", laid_clusterlocks_mode_together)], narrowed := true }
def CentralScriptsUptoSaid : Prop := centralScriptsUptoRow.holds Tryz.pinned (OpenSpec.upto centralScriptsSpec)

/-- 'clusterlockslaw15.CentralEvents', WHERE WHAT IT READS IS OF BULK AT MOST 1048576: true; the input reads as it did. -/
def centralEventsUptoRow : OpenClaim := { program := "ythpgjkjgkhjjlaagreatdoor", sum := "2320d69ef908a7646f95f1759960a8d402c2a6015ee00ab61861ea83cf8ec7e7", func := "clusterlocks/clusterlockslaw15.CentralEvents", spec := "centralEvents", inPlace := ["internal/bytealg.abigen_runtime_cmpstring", "slices.overlaps[clusterlocks/api.Process]"], unfollowed := true, recurses := true, named := ["clusterlocks/mode.together"], apart := false, laid := [("clusterlocks/mode.together", laid_clusterlocks_mode_together)], narrowed := true }
def CentralEventsUptoSaid : Prop := centralEventsUptoRow.holds Tryz.pinned (OpenSpec.upto centralEventsSpec)

/-- 'clusterlockslaw15.CentralSettles', WHERE WHAT IT READS IS OF BULK AT MOST 1048576: true; the input reads as it did. -/
def centralSettlesUptoRow : OpenClaim := { program := "ythpgjkjgkhjjlaagreatdoor", sum := "2320d69ef908a7646f95f1759960a8d402c2a6015ee00ab61861ea83cf8ec7e7", func := "clusterlocks/clusterlockslaw15.CentralSettles", spec := "centralSettles", inPlace := ["internal/bytealg.abigen_runtime_cmpstring", "slices.overlaps[clusterlocks/api.Process]"], unfollowed := true, recurses := true, named := ["clusterlocks/mode.together"], apart := false, laid := [("clusterlocks/mode.together", laid_clusterlocks_mode_together)], narrowed := true }
def CentralSettlesUptoSaid : Prop := centralSettlesUptoRow.holds Tryz.pinned (OpenSpec.upto centralSettlesSpec)

/-- 'clusterlockslaw15.CentralCancels', WHERE WHAT IT READS IS OF BULK AT MOST 1048576: true; the input reads as it did. -/
def centralCancelsUptoRow : OpenClaim := { program := "ythpgjkjgkhjjlaagreatdoor", sum := "2320d69ef908a7646f95f1759960a8d402c2a6015ee00ab61861ea83cf8ec7e7", func := "clusterlocks/clusterlockslaw15.CentralCancels", spec := "centralCancels", inPlace := ["internal/bytealg.abigen_runtime_cmpstring", "slices.overlaps[clusterlocks/api.Process]"], unfollowed := true, recurses := true, named := ["clusterlocks/mode.together"], apart := false, laid := [("clusterlocks/mode.together", laid_clusterlocks_mode_together)], narrowed := true }
def CentralCancelsUptoSaid : Prop := centralCancelsUptoRow.holds Tryz.pinned (OpenSpec.upto centralCancelsSpec)

/-- 'clusterlockslaw15.CentralRolls', WHERE WHAT IT READS IS OF BULK AT MOST 1048576: true; the input reads as it did. -/
def centralRollsUptoRow : OpenClaim := { program := "ythpgjkjgkhjjlaagreatdoor", sum := "2320d69ef908a7646f95f1759960a8d402c2a6015ee00ab61861ea83cf8ec7e7", func := "clusterlocks/clusterlockslaw15.CentralRolls", spec := "centralRolls", inPlace := ["internal/bytealg.abigen_runtime_cmpstring", "slices.overlaps[clusterlocks/api.Process]"], unfollowed := true, recurses := true, named := ["clusterlocks/mode.together"], apart := false, laid := [("clusterlocks/mode.together", laid_clusterlocks_mode_together)], narrowed := true }
def CentralRollsUptoSaid : Prop := centralRollsUptoRow.holds Tryz.pinned (OpenSpec.upto centralRollsSpec)

/-- 'clusterlockslaw15.CentralTicks', WHERE WHAT IT READS IS OF BULK AT MOST 1048576: true; the input reads as it did. -/
def centralTicksUptoRow : OpenClaim := { program := "ythpgjkjgkhjjlaagreatdoor", sum := "2320d69ef908a7646f95f1759960a8d402c2a6015ee00ab61861ea83cf8ec7e7", func := "clusterlocks/clusterlockslaw15.CentralTicks", spec := "centralTicks", inPlace := ["internal/bytealg.abigen_runtime_cmpstring", "slices.overlaps[clusterlocks/api.Process]"], unfollowed := true, recurses := true, named := ["clusterlocks/mode.together"], apart := false, laid := [("clusterlocks/mode.together", laid_clusterlocks_mode_together)], narrowed := true }
def CentralTicksUptoSaid : Prop := centralTicksUptoRow.holds Tryz.pinned (OpenSpec.upto centralTicksSpec)

/-- 'clusterlockslaw15.CentralLimits', WHERE WHAT IT READS IS OF BULK AT MOST 1048576: true; the input reads as it did. -/
def centralLimitsUptoRow : OpenClaim := { program := "ythpgjkjgkhjjlaagreatdoor", sum := "2320d69ef908a7646f95f1759960a8d402c2a6015ee00ab61861ea83cf8ec7e7", func := "clusterlocks/clusterlockslaw15.CentralLimits", spec := "centralLimits", inPlace := ["internal/bytealg.abigen_runtime_cmpstring", "slices.overlaps[clusterlocks/api.Process]"], unfollowed := true, recurses := true, named := ["clusterlocks/mode.together"], apart := false, laid := [("clusterlocks/mode.together", laid_clusterlocks_mode_together)], narrowed := true }
def CentralLimitsUptoSaid : Prop := centralLimitsUptoRow.holds Tryz.pinned (OpenSpec.upto centralLimitsSpec)

end Rows
end Go.Proofs.YthpgjkjgkhjjlaaGreatDoor
