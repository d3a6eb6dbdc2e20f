/-
  NARROWER THAN 'FOR EVERY INPUT', by the rows' own cells (each row's printed sentence says how): JustifyFinds: laid.
  DERIVED. THE GIVEN ROWS OF THIS SEAT. 1 by the template 'for every input the law returns true; each argument reads behind the call as it read before'; 0 by the template 'total and deterministic' (their statements: YtllipidegjpidaaGreatDoorTotals.lean).
  GIVEN WITH THE SEED: the statements are not yours to turn. If you find one false, say at which input.
  Laid BY PROGRAM, IN A SANDBOX (cutbox-rows.mjs): the forced cells as the released guide's own fill.sh prints them over the translation dc5ca888993b1544… (all of the seat's roots in one cut). By AI agents, Wed Nov 11 2026. No macro, syntax, notation, axiom, sorry.
-/
import Derived.Test.YtllipidegjpidaaGreatDoorChecked
import GoSem.Claim
import GoSem.ClaimJoined
import GoSem.ClaimMapViews
import Derived.JoinedTies
import Derived.KernelRfl
namespace Go.Proofs.YtllipidegjpidaaGreatDoor
/- THE CELL 'sum', in the pinned program and in every row, IS THE sha256 OF THE DUMP (.gsa) THAT YtllipidegjpidaaGreatDoorProg.lean LOADS. Nothing in Lean hashes anything: it is a label: what it is worth is what the hold of that sum in a sandbox is worth. -/
noncomputable def Tryz.pinned : Pinned := { name := "ytllipidegjpidaagreatdoor", sum := "dc5ca888993b1544048b601a3574c701f0680386a09d85c2f7ad14b4e89168f7", checked := Tryz.checked }
namespace Rows
def none {H : Type} : Left H := { results := [], args := [] }

/- WHAT THE LISTED PACKAGE-LEVEL VARIABLES READ AS WHEN THE CALL BEGINS. Each datum BY PROGRAM (the guide's laid-datum.mjs) off the statement by which the dump's own 'gosem.cut.vars' lays the variable. In a bare row this is a premise. The card (YtllipidegjpidaaGreatDoorCards.lean) ties it to the program's text. -/
def laid_errors_errorType {H : Type} : DataW H := .iface "internal/reflectlite.rtype" (.agg [.ptr (.lit (.string [101, 114, 114, 111, 114]))])
def laid_hammock_phase_names {H : Type} : DataW H := .agg [.lit (.string []), .lit (.string [112, 101, 110, 100, 105, 110, 103]), .lit (.string [110, 111, 109, 105, 110, 97, 116, 101, 100]), .lit (.string [98, 111, 117, 110, 100]), .lit (.string [116, 101, 114, 109, 105, 110, 97, 116, 105, 110, 103]), .lit (.string [103, 111, 110, 101])]
def laid_hammock_justify_names {H : Type} : DataW H := .agg [.lit (.string [114, 105, 103, 104, 116]), .lit (.string [98, 97, 100, 32, 118, 105, 101, 119]), .lit (.string [117, 110, 110, 101, 101, 100, 101, 100]), .lit (.string [102, 111, 114, 98, 105, 100, 100, 101, 110]), .lit (.string [102, 111, 114, 101, 105, 103, 110]), .lit (.string [116, 111, 111, 32, 102, 101, 119]), .lit (.string [116, 111, 111, 32, 109, 97, 110, 121]), .lit (.string [110, 111, 116, 32, 98, 101, 115, 116]), .lit (.string [109, 105, 115, 115, 101, 100])]

/-- 'hammocklaw27.JustifyFinds': WHATEVER THE INPUT: true; the input reads as it did. -/
def justifyFindsSpec : ChangeSpec := { name := "justifyFinds", fn := fun _ => fun
  | [d1, d2, d3] => { results := [.lit (.bool true)], args := [d1, d2, d3] }
  | _ => none }
def justifyFindsRow : OpenClaim := { program := "ytllipidegjpidaagreatdoor", sum := "dc5ca888993b1544048b601a3574c701f0680386a09d85c2f7ad14b4e89168f7", func := "hammock/hammocklaw27.JustifyFinds", spec := "justifyFinds", inPlace := ["math/bits.Add64", "internal/reflectlite.ValueOf", "(internal/reflectlite.Value).Type", "(internal/reflectlite.Value).IsNil", "internal/reflectlite.TypeOf", "(internal/reflectlite.Value).Elem", "(internal/reflectlite.Value).Set"], unfollowed := true, recurses := true, named := ["hammock/phase.names", "errors.errorType", "hammock/justify.names"], plainKeys := false, apart := false, laid := [("errors.errorType", laid_errors_errorType), ("hammock/phase.names", laid_hammock_phase_names), ("hammock/justify.names", laid_hammock_justify_names)] }
def JustifyFindsSaid : Prop := justifyFindsRow.holds Tryz.pinned (OpenSpec.ofChange justifyFindsSpec)

/-- ITS FALSE NEIGHBOUR: 'it returns false'. Refute it at one input. -/
def justifyFindsWrong : ChangeSpec := { name := "justifyFinds", fn := fun _ => fun
  | [d1, d2, d3] => { results := [.lit (.bool false)], args := [d1, d2, d3] }
  | _ => none }
def JustifyFindsWrongFalsely : Prop := justifyFindsRow.holds Tryz.pinned (OpenSpec.ofChange justifyFindsWrong)

/- THE SECOND FORM. 'bulk': how many values and letters a reading holds, each counted each time it is reached (what is shared counts as often as it is met; a slice's spare places count too). A statement '..UptoSaid' is the law's where the arguments, and the package variables that the reading takes, are together of bulk at most 1048576: NARROWER than '..Said'. Prove '..Said' where nothing that the law and all that it calls make is longer than what came in: it says more and counts as full. Else prove '..UptoSaid'. A law counts once. -/
mutual
def uptoBulk {H : Type} : DataW H → Nat
  | .lit (.string bytes) => bytes.length + 1
  | .lit _ => 1
  | .nil => 1
  | .ptr d => uptoBulk d + 1
  | .slice elems spare => uptoBulkAll elems + uptoBulkAll spare + 1
  | .agg parts => uptoBulkAll parts + 1
  | .iface _ d => uptoBulk d + 1
  | .map entries => uptoBulkEntries entries + 1
  | .held _ => 1
def uptoBulkAll {H : Type} : List (DataW H) → Nat
  | [] => 0
  | d :: r => uptoBulk d + uptoBulkAll r
def uptoBulkEntries {H : Type} : List (Lit × DataW H) → Nat
  | [] => 0
  | x :: r => uptoBulkEntry x + uptoBulkEntries r
def uptoBulkEntry {H : Type} : Lit × DataW H → Nat
  | (.string bytes, d) => bytes.length + uptoBulk d + 1
  | (_, d) => uptoBulk d + 1
 end
def uptoSmall : (H : Type) → List (DataW H) → Bool := fun _ ds => decide (uptoBulkAll ds ≤ 1048576)
def OpenSpec.upto (s : _root_.Go.ChangeSpec) : _root_.Go.OpenSpec := { _root_.Go.OpenSpec.ofChange s with cond := some uptoSmall }

/-- 'hammocklaw27.JustifyFinds', WHERE WHAT IT READS IS OF BULK AT MOST 1048576: true; the input reads as it did. -/
def justifyFindsUptoRow : OpenClaim := { program := "ytllipidegjpidaagreatdoor", sum := "dc5ca888993b1544048b601a3574c701f0680386a09d85c2f7ad14b4e89168f7", func := "hammock/hammocklaw27.JustifyFinds", spec := "justifyFinds", inPlace := ["math/bits.Add64", "internal/reflectlite.ValueOf", "(internal/reflectlite.Value).Type", "(internal/reflectlite.Value).IsNil", "internal/reflectlite.TypeOf", "(internal/reflectlite.Value).Elem", "(internal/reflectlite.Value).Set"], unfollowed := true, recurses := true, named := ["hammock/phase.names", "errors.errorType", "hammock/justify.names"], plainKeys := false, apart := false, laid := [("errors.errorType", laid_errors_errorType), ("hammock/phase.names", laid_hammock_phase_names), ("hammock/justify.names", laid_hammock_justify_names)], narrowed := true }
def JustifyFindsUptoSaid : Prop := justifyFindsUptoRow.holds Tryz.pinned (OpenSpec.upto justifyFindsSpec)

end Rows
end Go.Proofs.YtllipidegjpidaaGreatDoor
