/-
  NARROWER THAN 'FOR EVERY INPUT', by the rows' own cells (each row's printed sentence says how): ExprgenNames: loops, laid.
  DERIVED. THE GIVEN ROWS OF THIS SEAT. 1 by the template 'for every input the law returns true; each argument reads behind the call as it read before'; 0 by the template 'total and deterministic' (their statements: YtbijhlgdilkopaaGreatDoorTotals.lean).
  GIVEN WITH THE SEED: the statements are not yours to turn. If you find one false, say at which input.
  Laid BY PROGRAM, IN A SANDBOX (cutbox-rows.mjs): the forced cells as the released guide's own fill.sh prints them over the translation 513fae85ce545f96… (all of the seat's roots in one cut). By AI agents, Wed Nov 11 2026. No macro, syntax, notation, axiom, sorry.
-/
import Derived.Test.YtbijhlgdilkopaaGreatDoorChecked
import GoSem.Claim
import GoSem.ClaimJoined
import GoSem.ClaimMapViews
import Derived.JoinedTies
import Derived.KernelRfl
namespace Go.Proofs.YtbijhlgdilkopaaGreatDoor
/- THE CELL 'sum', in the pinned program and in every row, IS THE sha256 OF THE DUMP (.gsa) THAT YtbijhlgdilkopaaGreatDoorProg.lean LOADS. Nothing in Lean hashes anything: it is a label: what it is worth is what the hold of that sum in a sandbox is worth. -/
noncomputable def Tryz.pinned : Pinned := { name := "ytbijhlgdilkopaagreatdoor", sum := "513fae85ce545f966c0664937f383a94c0eda27af8aa17f693df5b3b78da7191", checked := Tryz.checked }
namespace Rows
def none {H : Type} : Left H := { results := [], args := [] }

/- WHAT THE LISTED PACKAGE-LEVEL VARIABLES READ AS WHEN THE CALL BEGINS. Each datum BY PROGRAM (the guide's laid-datum.mjs) off the statement by which the dump's own 'gosem.cut.vars' lays the variable. In a bare row this is a premise. The card (YtbijhlgdilkopaaGreatDoorCards.lean) ties it to the program's text. -/
def laid_backstep_isa_table {H : Type} : DataW H := .agg [.agg [.lit (.string [110, 111, 112]), .lit (.int .i64 0)], .agg [.lit (.string [97, 100, 100]), .lit (.int .i64 2)], .agg [.lit (.string [115, 117, 98]), .lit (.int .i64 2)], .agg [.lit (.string [120, 111, 114]), .lit (.int .i64 2)], .agg [.lit (.string [97, 100, 100, 105]), .lit (.int .i64 2)], .agg [.lit (.string [115, 117, 98, 105]), .lit (.int .i64 2)], .agg [.lit (.string [120, 111, 114, 105]), .lit (.int .i64 2)], .agg [.lit (.string [115, 119, 97, 112]), .lit (.int .i64 2)], .agg [.lit (.string [110, 101, 103]), .lit (.int .i64 1)], .agg [.lit (.string [99, 97, 108, 99]), .lit (.int .i64 4)], .agg [.lit (.string [109, 101, 109]), .lit (.int .i64 2)], .agg [.lit (.string [105, 100, 120]), .lit (.int .i64 4)], .agg [.lit (.string [112, 117, 115, 104]), .lit (.int .i64 2)], .agg [.lit (.string [112, 111, 112]), .lit (.int .i64 2)], .agg [.lit (.string [116, 111, 112]), .lit (.int .i64 2)], .agg [.lit (.string [115, 105, 122, 101]), .lit (.int .i64 2)], .agg [.lit (.string [115, 119, 97, 112, 115]), .lit (.int .i64 2)], .agg [.lit (.string [114, 101, 97, 100]), .lit (.int .i64 1)], .agg [.lit (.string [117, 110, 114, 101, 97, 100]), .lit (.int .i64 1)], .agg [.lit (.string [119, 114, 105, 116, 101]), .lit (.int .i64 1)], .agg [.lit (.string [117, 110, 119, 114, 105, 116, 101]), .lit (.int .i64 1)], .agg [.lit (.string [122, 101, 114, 111]), .lit (.int .i64 2)], .agg [.lit (.string [106, 109, 112]), .lit (.int .i64 1)], .agg [.lit (.string [106, 109, 112, 122]), .lit (.int .i64 2)], .agg [.lit (.string [106, 109, 112, 110]), .lit (.int .i64 2)], .agg [.lit (.string [108, 97, 110, 100]), .lit (.int .i64 1)], .agg [.lit (.string [108, 97, 110, 100, 122]), .lit (.int .i64 2)], .agg [.lit (.string [108, 97, 110, 100, 110]), .lit (.int .i64 2)], .agg [.lit (.string [102, 114, 97, 109, 101]), .lit (.int .i64 2)], .agg [.lit (.string [117, 110, 102, 114, 97, 109, 101]), .lit (.int .i64 2)], .agg [.lit (.string [99, 97, 108, 108]), .lit (.int .i64 1)], .agg [.lit (.string [117, 110, 99, 97, 108, 108]), .lit (.int .i64 1)], .agg [.lit (.string [115, 116, 97, 114, 116]), .lit (.int .i64 1)], .agg [.lit (.string [101, 110, 100]), .lit (.int .i64 1)], .agg [.lit (.string [104, 97, 108, 116]), .lit (.int .i64 0)]]

/-- 'backsteplaw27.ExprgenNames': WHATEVER THE INPUT: true; the input reads as it did. -/
def exprgenNamesSpec : ChangeSpec := { name := "exprgenNames", fn := fun _ => fun
  | [d1, d2] => { results := [.lit (.bool true)], args := [d1, d2] }
  | _ => none }
def exprgenNamesRow : OpenClaim := { program := "ytbijhlgdilkopaagreatdoor", sum := "513fae85ce545f966c0664937f383a94c0eda27af8aa17f693df5b3b78da7191", func := "backstep/backsteplaw27.ExprgenNames", spec := "exprgenNames", inPlace := ["internal/bytealg.IndexByteString"], unfollowed := true, recurses := true, named := ["backstep/isa.table"], loops := true, apart := false, laid := [("backstep/isa.table", laid_backstep_isa_table)] }
def ExprgenNamesSaid : Prop := exprgenNamesRow.holds Tryz.pinned (OpenSpec.ofChange exprgenNamesSpec)

/-- ITS FALSE NEIGHBOUR: 'it returns false'. Refute it at one input. -/
def exprgenNamesWrong : ChangeSpec := { name := "exprgenNames", fn := fun _ => fun
  | [d1, d2] => { results := [.lit (.bool false)], args := [d1, d2] }
  | _ => none }
def ExprgenNamesWrongFalsely : Prop := exprgenNamesRow.holds Tryz.pinned (OpenSpec.ofChange exprgenNamesWrong)

/- THE SECOND FORM. 'bulk': how many values and letters a reading holds, each counted each time it is reached (what is shared counts as often as it is met; a slice's spare places count too). A statement '..UptoSaid' is the law's where the arguments, and the package variables that the reading takes, are together of bulk at most 1048576: NARROWER than '..Said'. Prove '..Said' where nothing that the law and all that it calls make is longer than what came in: it says more and counts as full. Else prove '..UptoSaid'. A law counts once. -/
mutual
def uptoBulk {H : Type} : DataW H → Nat
  | .lit (.string bytes) => bytes.length + 1
  | .lit _ => 1
  | .nil => 1
  | .ptr d => uptoBulk d + 1
  | .slice elems spare => uptoBulkAll elems + uptoBulkAll spare + 1
  | .agg parts => uptoBulkAll parts + 1
  | .iface _ d => uptoBulk d + 1
  | .map entries => uptoBulkEntries entries + 1
  | .held _ => 1
def uptoBulkAll {H : Type} : List (DataW H) → Nat
  | [] => 0
  | d :: r => uptoBulk d + uptoBulkAll r
def uptoBulkEntries {H : Type} : List (Lit × DataW H) → Nat
  | [] => 0
  | x :: r => uptoBulkEntry x + uptoBulkEntries r
def uptoBulkEntry {H : Type} : Lit × DataW H → Nat
  | (.string bytes, d) => bytes.length + uptoBulk d + 1
  | (_, d) => uptoBulk d + 1
 end
def uptoSmall : (H : Type) → List (DataW H) → Bool := fun _ ds => decide (uptoBulkAll ds ≤ 1048576)
def OpenSpec.upto (s : _root_.Go.ChangeSpec) : _root_.Go.OpenSpec := { _root_.Go.OpenSpec.ofChange s with cond := some uptoSmall }

/-- 'backsteplaw27.ExprgenNames', WHERE WHAT IT READS IS OF BULK AT MOST 1048576: true; the input reads as it did. -/
def exprgenNamesUptoRow : OpenClaim := { program := "ytbijhlgdilkopaagreatdoor", sum := "513fae85ce545f966c0664937f383a94c0eda27af8aa17f693df5b3b78da7191", func := "backstep/backsteplaw27.ExprgenNames", spec := "exprgenNames", inPlace := ["internal/bytealg.IndexByteString"], unfollowed := true, recurses := true, named := ["backstep/isa.table"], loops := true, apart := false, laid := [("backstep/isa.table", laid_backstep_isa_table)], narrowed := true }
def ExprgenNamesUptoSaid : Prop := exprgenNamesUptoRow.holds Tryz.pinned (OpenSpec.upto exprgenNamesSpec)

end Rows
end Go.Proofs.YtbijhlgdilkopaaGreatDoor
