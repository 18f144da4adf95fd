/-
  NARROWER THAN 'FOR EVERY INPUT', by the rows' own cells (each row's printed sentence says how): CentralSafe: laid · CentralEnds: laid.
  DERIVED. THE GIVEN ROWS OF THIS SEAT. 2 by the template 'for every input the law returns true; each argument reads behind the call as it read before'; 0 by the template 'total and deterministic' (their statements: YtcgpepnbohejfaaGreatDoorTotals.lean).
  GIVEN WITH THE SEED: the statements are not yours to turn. If you find one false, say at which input.
  Laid BY PROGRAM, IN A SANDBOX (cutbox-rows.mjs): the forced cells as the released guide's own fill.sh prints them over the translation 108c20d675eebd2e… (all of the seat's roots in one cut). By AI agents, Wed Nov 11 2026. No macro, syntax, notation, axiom, sorry.
-/
import Derived.Test.YtcgpepnbohejfaaGreatDoorChecked
import GoSem.Claim
import GoSem.ClaimJoined
import GoSem.ClaimMapViews
import Derived.JoinedTies
import Derived.KernelRfl
namespace Go.Proofs.YtcgpepnbohejfaaGreatDoor
/- THE CELL 'sum', in the pinned program and in every row, IS THE sha256 OF THE DUMP (.gsa) THAT YtcgpepnbohejfaaGreatDoorProg.lean LOADS. Nothing in Lean hashes anything: it is a label: what it is worth is what the hold of that sum in a sandbox is worth. -/
noncomputable def Tryz.pinned : Pinned := { name := "ytcgpepnbohejfaagreatdoor", sum := "108c20d675eebd2e4035da9ba210e1e209744bc8cec6540f54e40eaa408ba8e8", checked := Tryz.checked }
namespace Rows
def none {H : Type} : Left H := { results := [], args := [] }

/- WHAT THE LISTED PACKAGE-LEVEL VARIABLES READ AS WHEN THE CALL BEGINS. Each datum BY PROGRAM (the guide's laid-datum.mjs) off the statement by which the dump's own 'gosem.cut.vars' lays the variable. In a bare row this is a premise. The card (YtcgpepnbohejfaaGreatDoorCards.lean) ties it to the program's text. -/
def laid_clusterlocks_mode_together {H : Type} : DataW H := .agg [.agg [.lit (.bool true), .lit (.bool true), .lit (.bool true), .lit (.bool true), .lit (.bool false)], .agg [.lit (.bool true), .lit (.bool true), .lit (.bool false), .lit (.bool false), .lit (.bool false)], .agg [.lit (.bool true), .lit (.bool false), .lit (.bool true), .lit (.bool false), .lit (.bool false)], .agg [.lit (.bool true), .lit (.bool false), .lit (.bool false), .lit (.bool false), .lit (.bool false)], .agg [.lit (.bool false), .lit (.bool false), .lit (.bool false), .lit (.bool false), .lit (.bool false)]]

/-- 'clusterlockslaw15.CentralSafe': WHATEVER THE INPUT: true; the input reads as it did. -/
def centralSafeSpec : ChangeSpec := { name := "centralSafe", fn := fun _ => fun
  | [d] => { results := [.lit (.bool true)], args := [d] }
  | _ => none }
def centralSafeRow : OpenClaim := { program := "ytcgpepnbohejfaagreatdoor", sum := "108c20d675eebd2e4035da9ba210e1e209744bc8cec6540f54e40eaa408ba8e8", func := "clusterlocks/clusterlockslaw15.CentralSafe", spec := "centralSafe", inPlace := ["internal/bytealg.abigen_runtime_cmpstring", "slices.overlaps[clusterlocks/api.Process]"], unfollowed := true, recurses := true, named := ["clusterlocks/mode.together"], apart := false, laid := [("clusterlocks/mode.together", laid_clusterlocks_mode_together)] }
def CentralSafeSaid : Prop := centralSafeRow.holds Tryz.pinned (OpenSpec.ofChange centralSafeSpec)

/-- ITS FALSE NEIGHBOUR: 'it returns false'. Refute it at one input. -/
def centralSafeWrong : ChangeSpec := { name := "centralSafe", fn := fun _ => fun
  | [d] => { results := [.lit (.bool false)], args := [d] }
  | _ => none }
def CentralSafeWrongFalsely : Prop := centralSafeRow.holds Tryz.pinned (OpenSpec.ofChange centralSafeWrong)

/-- 'clusterlockslaw15.CentralEnds': WHATEVER THE INPUT: true; the input reads as it did. -/
def centralEndsSpec : ChangeSpec := { name := "centralEnds", fn := fun _ => fun
  | [d1, d2] => { results := [.lit (.bool true)], args := [d1, d2] }
  | _ => none }
def centralEndsRow : OpenClaim := { program := "ytcgpepnbohejfaagreatdoor", sum := "108c20d675eebd2e4035da9ba210e1e209744bc8cec6540f54e40eaa408ba8e8", func := "clusterlocks/clusterlockslaw15.CentralEnds", spec := "centralEnds", inPlace := ["internal/bytealg.abigen_runtime_cmpstring", "slices.overlaps[clusterlocks/api.Process]"], unfollowed := true, recurses := true, named := ["clusterlocks/mode.together"], apart := false, laid := [("clusterlocks/mode.together", laid_clusterlocks_mode_together)] }
def CentralEndsSaid : Prop := centralEndsRow.holds Tryz.pinned (OpenSpec.ofChange centralEndsSpec)

/-- ITS FALSE NEIGHBOUR: 'it returns false'. Refute it at one input. -/
def centralEndsWrong : ChangeSpec := { name := "centralEnds", fn := fun _ => fun
  | [d1, d2] => { results := [.lit (.bool false)], args := [d1, d2] }
  | _ => none }
def CentralEndsWrongFalsely : Prop := centralEndsRow.holds Tryz.pinned (OpenSpec.ofChange centralEndsWrong)

/- THE SECOND FORM. 'bulk': how many values and letters a reading holds, each counted each time it is reached (what is shared counts as often as it is met; a slice's spare places count too). A statement '..UptoSaid' is the law's where the arguments, and the package variables that the reading takes, are together of bulk at most 1048576: NARROWER than '..Said'. Prove '..Said' where nothing that the law and all that it calls make is longer than what came in: it says more and counts as full. Else prove '..UptoSaid'. A law counts once. -/
mutual
def uptoBulk {H : Type} : DataW H → Nat
  | .lit (.string bytes) => bytes.length + 1
  | .lit _ => 1
  | .nil => 1
  | .ptr d => uptoBulk d + 1
  | .slice elems spare => uptoBulkAll elems + uptoBulkAll spare + 1
  | .agg parts => uptoBulkAll parts + 1
  | .iface _ d => uptoBulk d + 1
  | .map entries => uptoBulkEntries entries + 1
  | .held _ => 1
def uptoBulkAll {H : Type} : List (DataW H) → Nat
  | [] => 0
  | d :: r => uptoBulk d + uptoBulkAll r
def uptoBulkEntries {H : Type} : List (Lit × DataW H) → Nat
  | [] => 0
  | x :: r => uptoBulkEntry x + uptoBulkEntries r
def uptoBulkEntry {H : Type} : Lit × DataW H → Nat
  | (.string bytes, d) => bytes.length + uptoBulk d + 1
  | (_, d) => uptoBulk d + 1
 end
def uptoSmall : (H : Type) → List (DataW H) → Bool := fun _ ds => decide (uptoBulkAll ds ≤ 1048576)
def OpenSpec.upto (s : _root_.Go.ChangeSpec) : _root_.Go.OpenSpec := { _root_.Go.OpenSpec.ofChange s with cond := some uptoSmall }

/-- 'clusterlockslaw15.CentralSafe', WHERE WHAT IT READS IS OF BULK AT MOST 1048576: true; the input reads as it did. -/
def centralSafeUptoRow : OpenClaim := { program := "ytcgpepnbohejfaagreatdoor", sum := "108c20d675eebd2e4035da9ba210e1e209744bc8cec6540f54e40eaa408ba8e8", func := "clusterlocks/clusterlockslaw15.CentralSafe", spec := "centralSafe", inPlace := ["internal/bytealg.abigen_runtime_cmpstring", "slices.overlaps[clusterlocks/api.Process]"], unfollowed := true, recurses := true, named := ["clusterlocks/mode.together"], apart := false, laid := [("clusterlocks/mode.together", laid_clusterlocks_mode_together)], narrowed := true }
def CentralSafeUptoSaid : Prop := centralSafeUptoRow.holds Tryz.pinned (OpenSpec.upto centralSafeSpec)

/-- 'clusterlockslaw15.CentralEnds', WHERE WHAT IT READS IS OF BULK AT MOST 1048576: true; the input reads as it did. -/
def centralEndsUptoRow : OpenClaim := { program := "ytcgpepnbohejfaagreatdoor", sum := "108c20d675eebd2e4035da9ba210e1e209744bc8cec6540f54e40eaa408ba8e8", func := "clusterlocks/clusterlockslaw15.CentralEnds", spec := "centralEnds", inPlace := ["internal/bytealg.abigen_runtime_cmpstring", "slices.overlaps[clusterlocks/api.Process]"], unfollowed := true, recurses := true, named := ["clusterlocks/mode.together"], apart := false, laid := [("clusterlocks/mode.together", laid_clusterlocks_mode_together)], narrowed := true }
def CentralEndsUptoSaid : Prop := centralEndsUptoRow.holds Tryz.pinned (OpenSpec.upto centralEndsSpec)

end Rows
end Go.Proofs.YtcgpepnbohejfaaGreatDoor
