/-
  NARROWER THAN 'FOR EVERY INPUT', by the rows' own cells (each row's printed sentence says how): WaitgraphStates: laid · RollbackApplies: loops, laid · RollbackLeaves: laid · RollbackKeeps: laid.
  DERIVED. THE GIVEN ROWS OF THIS SEAT. 4 by the template 'for every input the law returns true; each argument reads behind the call as it read before'; 0 by the template 'total and deterministic' (their statements: YtkkbopkbjacfmaaGreatDoorTotals.lean).
  GIVEN WITH THE SEED: the statements are not yours to turn. If you find one false, say at which input.
  Laid BY PROGRAM, IN A SANDBOX (cutbox-rows.mjs): the forced cells as the released guide's own fill.sh prints them over the translation ae53e72c47965531… (all of the seat's roots in one cut). By AI agents, Wed Nov 11 2026. No macro, syntax, notation, axiom, sorry.
-/
import Derived.Test.YtkkbopkbjacfmaaGreatDoorChecked
import GoSem.Claim
import GoSem.ClaimJoined
import GoSem.ClaimMapViews
import Derived.JoinedTies
import Derived.KernelRfl
namespace Go.Proofs.YtkkbopkbjacfmaaGreatDoor
/- THE CELL 'sum', in the pinned program and in every row, IS THE sha256 OF THE DUMP (.gsa) THAT YtkkbopkbjacfmaaGreatDoorProg.lean LOADS. Nothing in Lean hashes anything: it is a label: what it is worth is what the hold of that sum in a sandbox is worth. -/
noncomputable def Tryz.pinned : Pinned := { name := "ytkkbopkbjacfmaagreatdoor", sum := "ae53e72c479655315c582366870ef3ed955e7637304bd5ca27d38f03c1049711", checked := Tryz.checked }
namespace Rows
def none {H : Type} : Left H := { results := [], args := [] }

/- WHAT THE LISTED PACKAGE-LEVEL VARIABLES READ AS WHEN THE CALL BEGINS. Each datum BY PROGRAM (the guide's laid-datum.mjs) off the statement by which the dump's own 'gosem.cut.vars' lays the variable. In a bare row this is a premise. The card (YtkkbopkbjacfmaaGreatDoorCards.lean) ties it to the program's text. -/
def laid_clusterlocks_mode_together {H : Type} : DataW H := .agg [.agg [.lit (.bool true), .lit (.bool true), .lit (.bool true), .lit (.bool true), .lit (.bool false)], .agg [.lit (.bool true), .lit (.bool true), .lit (.bool false), .lit (.bool false), .lit (.bool false)], .agg [.lit (.bool true), .lit (.bool false), .lit (.bool true), .lit (.bool false), .lit (.bool false)], .agg [.lit (.bool true), .lit (.bool false), .lit (.bool false), .lit (.bool false), .lit (.bool false)], .agg [.lit (.bool false), .lit (.bool false), .lit (.bool false), .lit (.bool false), .lit (.bool false)]]

/-- 'clusterlockslaw19.WaitgraphStates': WHATEVER THE INPUT: true; the input reads as it did. -/
def waitgraphStatesSpec : ChangeSpec := { name := "waitgraphStates", fn := fun _ => fun
  | [d] => { results := [.lit (.bool true)], args := [d] }
  | _ => none }
def waitgraphStatesRow : OpenClaim := { program := "ytkkbopkbjacfmaagreatdoor", sum := "ae53e72c479655315c582366870ef3ed955e7637304bd5ca27d38f03c1049711", func := "clusterlocks/clusterlockslaw19.WaitgraphStates", spec := "waitgraphStates", unfollowed := true, recurses := true, named := ["clusterlocks/mode.together"], apart := false, laid := [("clusterlocks/mode.together", laid_clusterlocks_mode_together)] }
def WaitgraphStatesSaid : Prop := waitgraphStatesRow.holds Tryz.pinned (OpenSpec.ofChange waitgraphStatesSpec)

/-- ITS FALSE NEIGHBOUR: 'it returns false'. Refute it at one input. -/
def waitgraphStatesWrong : ChangeSpec := { name := "waitgraphStates", fn := fun _ => fun
  | [d] => { results := [.lit (.bool false)], args := [d] }
  | _ => none }
def WaitgraphStatesWrongFalsely : Prop := waitgraphStatesRow.holds Tryz.pinned (OpenSpec.ofChange waitgraphStatesWrong)

/-- 'clusterlockslaw21.RollbackApplies': WHATEVER THE INPUT: true; the input reads as it did. -/
def rollbackAppliesSpec : ChangeSpec := { name := "rollbackApplies", fn := fun _ => fun
  | [d1, d2, d3, d4] => { results := [.lit (.bool true)], args := [d1, d2, d3, d4] }
  | _ => none }
def rollbackAppliesRow : OpenClaim := { program := "ytkkbopkbjacfmaagreatdoor", sum := "ae53e72c479655315c582366870ef3ed955e7637304bd5ca27d38f03c1049711", func := "clusterlocks/clusterlockslaw21.RollbackApplies", spec := "rollbackApplies", inPlace := ["internal/bytealg.abigen_runtime_cmpstring"], unfollowed := true, recurses := true, named := ["clusterlocks/mode.together"], loops := true, apart := false, laid := [("clusterlocks/mode.together", laid_clusterlocks_mode_together)] }
def RollbackAppliesSaid : Prop := rollbackAppliesRow.holds Tryz.pinned (OpenSpec.ofChange rollbackAppliesSpec)

/-- ITS FALSE NEIGHBOUR: 'it returns false'. Refute it at one input. -/
def rollbackAppliesWrong : ChangeSpec := { name := "rollbackApplies", fn := fun _ => fun
  | [d1, d2, d3, d4] => { results := [.lit (.bool false)], args := [d1, d2, d3, d4] }
  | _ => none }
def RollbackAppliesWrongFalsely : Prop := rollbackAppliesRow.holds Tryz.pinned (OpenSpec.ofChange rollbackAppliesWrong)

/-- 'clusterlockslaw21.RollbackLeaves': WHATEVER THE INPUT: true; the input reads as it did. -/
def rollbackLeavesSpec : ChangeSpec := { name := "rollbackLeaves", fn := fun _ => fun
  | [d1, d2] => { results := [.lit (.bool true)], args := [d1, d2] }
  | _ => none }
def rollbackLeavesRow : OpenClaim := { program := "ytkkbopkbjacfmaagreatdoor", sum := "ae53e72c479655315c582366870ef3ed955e7637304bd5ca27d38f03c1049711", func := "clusterlocks/clusterlockslaw21.RollbackLeaves", spec := "rollbackLeaves", inPlace := ["internal/bytealg.abigen_runtime_cmpstring"], unfollowed := true, recurses := true, named := ["clusterlocks/mode.together"], apart := false, laid := [("clusterlocks/mode.together", laid_clusterlocks_mode_together)] }
def RollbackLeavesSaid : Prop := rollbackLeavesRow.holds Tryz.pinned (OpenSpec.ofChange rollbackLeavesSpec)

/-- ITS FALSE NEIGHBOUR: 'it returns false'. Refute it at one input. -/
def rollbackLeavesWrong : ChangeSpec := { name := "rollbackLeaves", fn := fun _ => fun
  | [d1, d2] => { results := [.lit (.bool false)], args := [d1, d2] }
  | _ => none }
def RollbackLeavesWrongFalsely : Prop := rollbackLeavesRow.holds Tryz.pinned (OpenSpec.ofChange rollbackLeavesWrong)

/-- 'clusterlockslaw21.RollbackKeeps': WHATEVER THE INPUT: true; the input reads as it did. -/
def rollbackKeepsSpec : ChangeSpec := { name := "rollbackKeeps", fn := fun _ => fun
  | [d] => { results := [.lit (.bool true)], args := [d] }
  | _ => none }
def rollbackKeepsRow : OpenClaim := { program := "ytkkbopkbjacfmaagreatdoor", sum := "ae53e72c479655315c582366870ef3ed955e7637304bd5ca27d38f03c1049711", func := "clusterlocks/clusterlockslaw21.RollbackKeeps", spec := "rollbackKeeps", inPlace := ["internal/bytealg.abigen_runtime_cmpstring"], unfollowed := true, recurses := true, named := ["clusterlocks/mode.together"], apart := false, laid := [("clusterlocks/mode.together", laid_clusterlocks_mode_together)] }
def RollbackKeepsSaid : Prop := rollbackKeepsRow.holds Tryz.pinned (OpenSpec.ofChange rollbackKeepsSpec)

/-- ITS FALSE NEIGHBOUR: 'it returns false'. Refute it at one input. -/
def rollbackKeepsWrong : ChangeSpec := { name := "rollbackKeeps", fn := fun _ => fun
  | [d] => { results := [.lit (.bool false)], args := [d] }
  | _ => none }
def RollbackKeepsWrongFalsely : Prop := rollbackKeepsRow.holds Tryz.pinned (OpenSpec.ofChange rollbackKeepsWrong)

/- THE SECOND FORM. 'bulk': how many values and letters a reading holds, each counted each time it is reached (what is shared counts as often as it is met; a slice's spare places count too). A statement '..UptoSaid' is the law's where the arguments, and the package variables that the reading takes, are together of bulk at most 1048576: NARROWER than '..Said'. Prove '..Said' where nothing that the law and all that it calls make is longer than what came in: it says more and counts as full. Else prove '..UptoSaid'. A law counts once. -/
mutual
def uptoBulk {H : Type} : DataW H → Nat
  | .lit (.string bytes) => bytes.length + 1
  | .lit _ => 1
  | .nil => 1
  | .ptr d => uptoBulk d + 1
  | .slice elems spare => uptoBulkAll elems + uptoBulkAll spare + 1
  | .agg parts => uptoBulkAll parts + 1
  | .iface _ d => uptoBulk d + 1
  | .map entries => uptoBulkEntries entries + 1
  | .held _ => 1
def uptoBulkAll {H : Type} : List (DataW H) → Nat
  | [] => 0
  | d :: r => uptoBulk d + uptoBulkAll r
def uptoBulkEntries {H : Type} : List (Lit × DataW H) → Nat
  | [] => 0
  | x :: r => uptoBulkEntry x + uptoBulkEntries r
def uptoBulkEntry {H : Type} : Lit × DataW H → Nat
  | (.string bytes, d) => bytes.length + uptoBulk d + 1
  | (_, d) => uptoBulk d + 1
 end
def uptoSmall : (H : Type) → List (DataW H) → Bool := fun _ ds => decide (uptoBulkAll ds ≤ 1048576)
def OpenSpec.upto (s : _root_.Go.ChangeSpec) : _root_.Go.OpenSpec := { _root_.Go.OpenSpec.ofChange s with cond := some uptoSmall }

/-- 'clusterlockslaw19.WaitgraphStates', WHERE WHAT IT READS IS OF BULK AT MOST 1048576: true; the input reads as it did. -/
def waitgraphStatesUptoRow : OpenClaim := { program := "ytkkbopkbjacfmaagreatdoor", sum := "ae53e72c479655315c582366870ef3ed955e7637304bd5ca27d38f03c1049711", func := "clusterlocks/clusterlockslaw19.WaitgraphStates", spec := "waitgraphStates", unfollowed := true, recurses := true, named := ["clusterlocks/mode.together"], apart := false, laid := [("clusterlocks/mode.together", laid_clusterlocks_mode_together)], narrowed := true }
def WaitgraphStatesUptoSaid : Prop := waitgraphStatesUptoRow.holds Tryz.pinned (OpenSpec.upto waitgraphStatesSpec)

/-- 'clusterlockslaw21.RollbackApplies', WHERE WHAT IT READS IS OF BULK AT MOST 1048576: true; the input reads as it did. -/
def rollbackAppliesUptoRow : OpenClaim := { program := "ytkkbopkbjacfmaagreatdoor", sum := "ae53e72c479655315c582366870ef3ed955e7637304bd5ca27d38f03c1049711", func := "clusterlocks/clusterlockslaw21.RollbackApplies", spec := "rollbackApplies", inPlace := ["internal/bytealg.abigen_runtime_cmpstring"], unfollowed := true, recurses := true, named := ["clusterlocks/mode.together"], loops := true, apart := false, laid := [("clusterlocks/mode.together", laid_clusterlocks_mode_together)], narrowed := true }
def RollbackAppliesUptoSaid : Prop := rollbackAppliesUptoRow.holds Tryz.pinned (OpenSpec.upto rollbackAppliesSpec)

/-- 'clusterlockslaw21.RollbackLeaves', WHERE WHAT IT READS IS OF BULK AT MOST 1048576: true; the input reads as it did. -/
def rollbackLeavesUptoRow : OpenClaim := { program := "ytkkbopkbjacfmaagreatdoor", sum := "ae53e72c479655315c582366870ef3ed955e7637304bd5ca27d38f03c1049711", func := "clusterlocks/clusterlockslaw21.RollbackLeaves", spec := "rollbackLeaves", inPlace := ["internal/bytealg.abigen_runtime_cmpstring"], unfollowed := true, recurses := true, named := ["clusterlocks/mode.together"], apart := false, laid := [("clusterlocks/mode.together", laid_clusterlocks_mode_together)], narrowed := true }
def RollbackLeavesUptoSaid : Prop := rollbackLeavesUptoRow.holds Tryz.pinned (OpenSpec.upto rollbackLeavesSpec)

/-- 'clusterlockslaw21.RollbackKeeps', WHERE WHAT IT READS IS OF BULK AT MOST 1048576: true; the input reads as it did. -/
def rollbackKeepsUptoRow : OpenClaim := { program := "ytkkbopkbjacfmaagreatdoor", sum := "ae53e72c479655315c582366870ef3ed955e7637304bd5ca27d38f03c1049711", func := "clusterlocks/clusterlockslaw21.RollbackKeeps", spec := "rollbackKeeps", inPlace := ["internal/bytealg.abigen_runtime_cmpstring"], unfollowed := true, recurses := true, named := ["clusterlocks/mode.together"], apart := false, laid := [("clusterlocks/mode.together", laid_clusterlocks_mode_together)], narrowed := true }
def RollbackKeepsUptoSaid : Prop := rollbackKeepsUptoRow.holds Tryz.pinned (OpenSpec.upto rollbackKeepsSpec)

end Rows
end Go.Proofs.YtkkbopkbjacfmaaGreatDoor
