/-
  NARROWER THAN 'FOR EVERY INPUT', by the rows' own cells (each row's printed sentence says how): CpuClone: laid · BreakpointBoth: laid · PeepholeRuns: laid.
  DERIVED. THE GIVEN ROWS OF THIS SEAT. 3 by the template 'for every input the law returns true; each argument reads behind the call as it read before'; 0 by the template 'total and deterministic' (their statements: YteenmpjjaheggaaDoorTotals.lean).
  GIVEN WITH THE SEED: the statements are not yours to turn. If you find one false, say at which input.
  Laid BY PROGRAM, IN A SANDBOX (cutbox-rows.mjs): the forced cells as the released guide's own fill.sh prints them over the translation 95133224cd1c4a34… (all of the seat's roots in one cut). By AI agents, Wed Nov 11 2026. No macro, syntax, notation, axiom, sorry.
-/
import Derived.Test.YteenmpjjaheggaaDoorChecked
import GoSem.Claim
import GoSem.ClaimJoined
import GoSem.ClaimMapViews
import Derived.JoinedTies
import Derived.KernelRfl
namespace Go.Proofs.YteenmpjjaheggaaDoor
/- THE CELL 'sum', in the pinned program and in every row, IS THE sha256 OF THE DUMP (.gsa) THAT YteenmpjjaheggaaDoorProg.lean LOADS. Nothing in Lean hashes anything: it is a label: what it is worth is what the hold of that sum in a sandbox is worth. -/
noncomputable def Tryd.pinned : Pinned := { name := "yteenmpjjaheggaadoor", sum := "95133224cd1c4a34bf5545ec03c0ae32e7f5cc53412e0c0d0f064999851f83ad", checked := Tryd.checked }
namespace Rows
def none {H : Type} : Left H := { results := [], args := [] }

/- WHAT THE LISTED PACKAGE-LEVEL VARIABLES READ AS WHEN THE CALL BEGINS. Each datum BY PROGRAM (the guide's laid-datum.mjs) off the statement by which the dump's own 'gosem.cut.vars' lays the variable. In a bare row this is a premise. The card (YteenmpjjaheggaaDoorCards.lean) ties it to the program's text. -/
def laid_backstep_isa_table {H : Type} : DataW H := .agg [.agg [.lit (.string [110, 111, 112]), .lit (.int .i64 0)], .agg [.lit (.string [97, 100, 100]), .lit (.int .i64 2)], .agg [.lit (.string [115, 117, 98]), .lit (.int .i64 2)], .agg [.lit (.string [120, 111, 114]), .lit (.int .i64 2)], .agg [.lit (.string [97, 100, 100, 105]), .lit (.int .i64 2)], .agg [.lit (.string [115, 117, 98, 105]), .lit (.int .i64 2)], .agg [.lit (.string [120, 111, 114, 105]), .lit (.int .i64 2)], .agg [.lit (.string [115, 119, 97, 112]), .lit (.int .i64 2)], .agg [.lit (.string [110, 101, 103]), .lit (.int .i64 1)], .agg [.lit (.string [99, 97, 108, 99]), .lit (.int .i64 4)], .agg [.lit (.string [109, 101, 109]), .lit (.int .i64 2)], .agg [.lit (.string [105, 100, 120]), .lit (.int .i64 4)], .agg [.lit (.string [112, 117, 115, 104]), .lit (.int .i64 2)], .agg [.lit (.string [112, 111, 112]), .lit (.int .i64 2)], .agg [.lit (.string [116, 111, 112]), .lit (.int .i64 2)], .agg [.lit (.string [115, 105, 122, 101]), .lit (.int .i64 2)], .agg [.lit (.string [115, 119, 97, 112, 115]), .lit (.int .i64 2)], .agg [.lit (.string [114, 101, 97, 100]), .lit (.int .i64 1)], .agg [.lit (.string [117, 110, 114, 101, 97, 100]), .lit (.int .i64 1)], .agg [.lit (.string [119, 114, 105, 116, 101]), .lit (.int .i64 1)], .agg [.lit (.string [117, 110, 119, 114, 105, 116, 101]), .lit (.int .i64 1)], .agg [.lit (.string [122, 101, 114, 111]), .lit (.int .i64 2)], .agg [.lit (.string [106, 109, 112]), .lit (.int .i64 1)], .agg [.lit (.string [106, 109, 112, 122]), .lit (.int .i64 2)], .agg [.lit (.string [106, 109, 112, 110]), .lit (.int .i64 2)], .agg [.lit (.string [108, 97, 110, 100]), .lit (.int .i64 1)], .agg [.lit (.string [108, 97, 110, 100, 122]), .lit (.int .i64 2)], .agg [.lit (.string [108, 97, 110, 100, 110]), .lit (.int .i64 2)], .agg [.lit (.string [102, 114, 97, 109, 101]), .lit (.int .i64 2)], .agg [.lit (.string [117, 110, 102, 114, 97, 109, 101]), .lit (.int .i64 2)], .agg [.lit (.string [99, 97, 108, 108]), .lit (.int .i64 1)], .agg [.lit (.string [117, 110, 99, 97, 108, 108]), .lit (.int .i64 1)], .agg [.lit (.string [115, 116, 97, 114, 116]), .lit (.int .i64 1)], .agg [.lit (.string [101, 110, 100]), .lit (.int .i64 1)], .agg [.lit (.string [104, 97, 108, 116]), .lit (.int .i64 0)]]

/-- 'backsteplaw24.CpuClone': WHATEVER THE INPUT: true; the input reads as it did. -/
def cpuCloneSpec : ChangeSpec := { name := "cpuClone", fn := fun _ => fun
  | [d1, d2, d3] => { results := [.lit (.bool true)], args := [d1, d2, d3] }
  | _ => none }
def cpuCloneRow : OpenClaim := { program := "yteenmpjjaheggaadoor", sum := "95133224cd1c4a34bf5545ec03c0ae32e7f5cc53412e0c0d0f064999851f83ad", func := "backstep/backsteplaw24.CpuClone", spec := "cpuClone", unfollowed := true, recurses := true, named := ["backstep/isa.table"], apart := false, laid := [("backstep/isa.table", laid_backstep_isa_table)] }
def CpuCloneSaid : Prop := cpuCloneRow.holds Tryd.pinned (OpenSpec.ofChange cpuCloneSpec)

/-- ITS FALSE NEIGHBOUR: 'it returns false'. Refute it at one input. -/
def cpuCloneWrong : ChangeSpec := { name := "cpuClone", fn := fun _ => fun
  | [d1, d2, d3] => { results := [.lit (.bool false)], args := [d1, d2, d3] }
  | _ => none }
def CpuCloneWrongFalsely : Prop := cpuCloneRow.holds Tryd.pinned (OpenSpec.ofChange cpuCloneWrong)

/-- 'backsteplaw34.BreakpointBoth': WHATEVER THE INPUT: true; the input reads as it did. -/
def breakpointBothSpec : ChangeSpec := { name := "breakpointBoth", fn := fun _ => fun
  | [d1, d2, d3] => { results := [.lit (.bool true)], args := [d1, d2, d3] }
  | _ => none }
def breakpointBothRow : OpenClaim := { program := "yteenmpjjaheggaadoor", sum := "95133224cd1c4a34bf5545ec03c0ae32e7f5cc53412e0c0d0f064999851f83ad", func := "backstep/backsteplaw34.BreakpointBoth", spec := "breakpointBoth", unfollowed := true, recurses := true, named := ["backstep/isa.table"], apart := false, laid := [("backstep/isa.table", laid_backstep_isa_table)] }
def BreakpointBothSaid : Prop := breakpointBothRow.holds Tryd.pinned (OpenSpec.ofChange breakpointBothSpec)

/-- ITS FALSE NEIGHBOUR: 'it returns false'. Refute it at one input. -/
def breakpointBothWrong : ChangeSpec := { name := "breakpointBoth", fn := fun _ => fun
  | [d1, d2, d3] => { results := [.lit (.bool false)], args := [d1, d2, d3] }
  | _ => none }
def BreakpointBothWrongFalsely : Prop := breakpointBothRow.holds Tryd.pinned (OpenSpec.ofChange breakpointBothWrong)

/-- 'backsteplaw32.PeepholeRuns': WHATEVER THE INPUT: true; the input reads as it did. -/
def peepholeRunsSpec : ChangeSpec := { name := "peepholeRuns", fn := fun _ => fun
  | [d1, d2] => { results := [.lit (.bool true)], args := [d1, d2] }
  | _ => none }
def peepholeRunsRow : OpenClaim := { program := "yteenmpjjaheggaadoor", sum := "95133224cd1c4a34bf5545ec03c0ae32e7f5cc53412e0c0d0f064999851f83ad", func := "backstep/backsteplaw32.PeepholeRuns", spec := "peepholeRuns", unfollowed := true, recurses := true, named := ["backstep/isa.table"], apart := false, laid := [("backstep/isa.table", laid_backstep_isa_table)] }
def PeepholeRunsSaid : Prop := peepholeRunsRow.holds Tryd.pinned (OpenSpec.ofChange peepholeRunsSpec)

/-- ITS FALSE NEIGHBOUR: 'it returns false'. Refute it at one input. -/
def peepholeRunsWrong : ChangeSpec := { name := "peepholeRuns", fn := fun _ => fun
  | [d1, d2] => { results := [.lit (.bool false)], args := [d1, d2] }
  | _ => none }
def PeepholeRunsWrongFalsely : Prop := peepholeRunsRow.holds Tryd.pinned (OpenSpec.ofChange peepholeRunsWrong)

/- THE SECOND FORM. 'bulk': how many values and letters a reading holds, each counted each time it is reached (what is shared counts as often as it is met; a slice's spare places count too). A statement '..UptoSaid' is the law's where the arguments, and the package variables that the reading takes, are together of bulk at most 1048576: NARROWER than '..Said'. Prove '..Said' where nothing that the law and all that it calls make is longer than what came in: it says more and counts as full. Else prove '..UptoSaid'. A law counts once. -/
mutual
def uptoBulk {H : Type} : DataW H → Nat
  | .lit (.string bytes) => bytes.length + 1
  | .lit _ => 1
  | .nil => 1
  | .ptr d => uptoBulk d + 1
  | .slice elems spare => uptoBulkAll elems + uptoBulkAll spare + 1
  | .agg parts => uptoBulkAll parts + 1
  | .iface _ d => uptoBulk d + 1
  | .map entries => uptoBulkEntries entries + 1
  | .held _ => 1
def uptoBulkAll {H : Type} : List (DataW H) → Nat
  | [] => 0
  | d :: r => uptoBulk d + uptoBulkAll r
def uptoBulkEntries {H : Type} : List (Lit × DataW H) → Nat
  | [] => 0
  | x :: r => uptoBulkEntry x + uptoBulkEntries r
def uptoBulkEntry {H : Type} : Lit × DataW H → Nat
  | (.string bytes, d) => bytes.length + uptoBulk d + 1
  | (_, d) => uptoBulk d + 1
 end
def uptoSmall : (H : Type) → List (DataW H) → Bool := fun _ ds => decide (uptoBulkAll ds ≤ 1048576)
def OpenSpec.upto (s : _root_.Go.ChangeSpec) : _root_.Go.OpenSpec := { _root_.Go.OpenSpec.ofChange s with cond := some uptoSmall }

/-- 'backsteplaw24.CpuClone', WHERE WHAT IT READS IS OF BULK AT MOST 1048576: true; the input reads as it did. -/
def cpuCloneUptoRow : OpenClaim := { program := "yteenmpjjaheggaadoor", sum := "95133224cd1c4a34bf5545ec03c0ae32e7f5cc53412e0c0d0f064999851f83ad", func := "backstep/backsteplaw24.CpuClone", spec := "cpuClone", unfollowed := true, recurses := true, named := ["backstep/isa.table"], apart := false, laid := [("backstep/isa.table", laid_backstep_isa_table)], narrowed := true }
def CpuCloneUptoSaid : Prop := cpuCloneUptoRow.holds Tryd.pinned (OpenSpec.upto cpuCloneSpec)

/-- 'backsteplaw34.BreakpointBoth', WHERE WHAT IT READS IS OF BULK AT MOST 1048576: true; the input reads as it did. -/
def breakpointBothUptoRow : OpenClaim := { program := "yteenmpjjaheggaadoor", sum := "95133224cd1c4a34bf5545ec03c0ae32e7f5cc53412e0c0d0f064999851f83ad", func := "backstep/backsteplaw34.BreakpointBoth", spec := "breakpointBoth", unfollowed := true, recurses := true, named := ["backstep/isa.table"], apart := false, laid := [("backstep/isa.table", laid_backstep_isa_table)], narrowed := true }
def BreakpointBothUptoSaid : Prop := breakpointBothUptoRow.holds Tryd.pinned (OpenSpec.upto breakpointBothSpec)

/-- 'backsteplaw32.PeepholeRuns', WHERE WHAT IT READS IS OF BULK AT MOST 1048576: true; the input reads as it did. -/
def peepholeRunsUptoRow : OpenClaim := { program := "yteenmpjjaheggaadoor", sum := "95133224cd1c4a34bf5545ec03c0ae32e7f5cc53412e0c0d0f064999851f83ad", func := "backstep/backsteplaw32.PeepholeRuns", spec := "peepholeRuns", unfollowed := true, recurses := true, named := ["backstep/isa.table"], apart := false, laid := [("backstep/isa.table", laid_backstep_isa_table)], narrowed := true }
def PeepholeRunsUptoSaid : Prop := peepholeRunsUptoRow.holds Tryd.pinned (OpenSpec.upto peepholeRunsSpec)

end Rows
end Go.Proofs.YteenmpjjaheggaaDoor
