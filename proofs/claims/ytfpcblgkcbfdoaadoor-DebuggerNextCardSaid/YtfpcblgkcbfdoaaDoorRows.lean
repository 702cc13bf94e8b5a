/-
  NARROWER THAN 'FOR EVERY INPUT', by the rows' own cells (each row's printed sentence says how): DebuggerNext: laid · DebuggerNew: laid · DebuggerSteps: laid · DebuggerSeeks: laid · DebuggerAgain: laid · DebuggerFinish: laid · DebuggerNone: laid · DebuggerRuns: laid.
  DERIVED. THE GIVEN ROWS OF THIS SEAT. 8 by the template 'for every input the law returns true; each argument reads behind the call as it read before'; 0 by the template 'total and deterministic' (their statements: YtfpcblgkcbfdoaaDoorTotals.lean).
  GIVEN WITH THE SEED: the statements are not yours to turn. If you find one false, say at which input.
  Laid BY PROGRAM, IN A SANDBOX (cutbox-rows.mjs): the forced cells as the released guide's own fill.sh prints them over the translation 817ef1bba4836559… (all of the seat's roots in one cut). By AI agents, Wed Nov 11 2026. No macro, syntax, notation, axiom, sorry.
-/
import Derived.Test.YtfpcblgkcbfdoaaDoorChecked
import GoSem.Claim
import GoSem.ClaimJoined
import GoSem.ClaimMapViews
import Derived.JoinedTies
import Derived.KernelRfl
namespace Go.Proofs.YtfpcblgkcbfdoaaDoor
/- THE CELL 'sum', in the pinned program and in every row, IS THE sha256 OF THE DUMP (.gsa) THAT YtfpcblgkcbfdoaaDoorProg.lean LOADS. Nothing in Lean hashes anything: it is a label: what it is worth is what the hold of that sum in a sandbox is worth. -/
noncomputable def Tryd.pinned : Pinned := { name := "ytfpcblgkcbfdoaadoor", sum := "817ef1bba4836559dcee4b920a06a43f9e252287640e31ce6de6e304aef331bc", checked := Tryd.checked }
namespace Rows
def none {H : Type} : Left H := { results := [], args := [] }

/- WHAT THE LISTED PACKAGE-LEVEL VARIABLES READ AS WHEN THE CALL BEGINS. Each datum BY PROGRAM (the guide's laid-datum.mjs) off the statement by which the dump's own 'gosem.cut.vars' lays the variable. In a bare row this is a premise. The card (YtfpcblgkcbfdoaaDoorCards.lean) ties it to the program's text. -/
def laid_backstep_isa_table {H : Type} : DataW H := .agg [.agg [.lit (.string [110, 111, 112]), .lit (.int .i64 0)], .agg [.lit (.string [97, 100, 100]), .lit (.int .i64 2)], .agg [.lit (.string [115, 117, 98]), .lit (.int .i64 2)], .agg [.lit (.string [120, 111, 114]), .lit (.int .i64 2)], .agg [.lit (.string [97, 100, 100, 105]), .lit (.int .i64 2)], .agg [.lit (.string [115, 117, 98, 105]), .lit (.int .i64 2)], .agg [.lit (.string [120, 111, 114, 105]), .lit (.int .i64 2)], .agg [.lit (.string [115, 119, 97, 112]), .lit (.int .i64 2)], .agg [.lit (.string [110, 101, 103]), .lit (.int .i64 1)], .agg [.lit (.string [99, 97, 108, 99]), .lit (.int .i64 4)], .agg [.lit (.string [109, 101, 109]), .lit (.int .i64 2)], .agg [.lit (.string [105, 100, 120]), .lit (.int .i64 4)], .agg [.lit (.string [112, 117, 115, 104]), .lit (.int .i64 2)], .agg [.lit (.string [112, 111, 112]), .lit (.int .i64 2)], .agg [.lit (.string [116, 111, 112]), .lit (.int .i64 2)], .agg [.lit (.string [115, 105, 122, 101]), .lit (.int .i64 2)], .agg [.lit (.string [115, 119, 97, 112, 115]), .lit (.int .i64 2)], .agg [.lit (.string [114, 101, 97, 100]), .lit (.int .i64 1)], .agg [.lit (.string [117, 110, 114, 101, 97, 100]), .lit (.int .i64 1)], .agg [.lit (.string [119, 114, 105, 116, 101]), .lit (.int .i64 1)], .agg [.lit (.string [117, 110, 119, 114, 105, 116, 101]), .lit (.int .i64 1)], .agg [.lit (.string [122, 101, 114, 111]), .lit (.int .i64 2)], .agg [.lit (.string [106, 109, 112]), .lit (.int .i64 1)], .agg [.lit (.string [106, 109, 112, 122]), .lit (.int .i64 2)], .agg [.lit (.string [106, 109, 112, 110]), .lit (.int .i64 2)], .agg [.lit (.string [108, 97, 110, 100]), .lit (.int .i64 1)], .agg [.lit (.string [108, 97, 110, 100, 122]), .lit (.int .i64 2)], .agg [.lit (.string [108, 97, 110, 100, 110]), .lit (.int .i64 2)], .agg [.lit (.string [102, 114, 97, 109, 101]), .lit (.int .i64 2)], .agg [.lit (.string [117, 110, 102, 114, 97, 109, 101]), .lit (.int .i64 2)], .agg [.lit (.string [99, 97, 108, 108]), .lit (.int .i64 1)], .agg [.lit (.string [117, 110, 99, 97, 108, 108]), .lit (.int .i64 1)], .agg [.lit (.string [115, 116, 97, 114, 116]), .lit (.int .i64 1)], .agg [.lit (.string [101, 110, 100]), .lit (.int .i64 1)], .agg [.lit (.string [104, 97, 108, 116]), .lit (.int .i64 0)]]

/-- 'backsteplaw33.DebuggerNext': WHATEVER THE INPUT: true; the input reads as it did. -/
def debuggerNextSpec : ChangeSpec := { name := "debuggerNext", fn := fun _ => fun
  | [d1, d2, d3] => { results := [.lit (.bool true)], args := [d1, d2, d3] }
  | _ => none }
def debuggerNextRow : OpenClaim := { program := "ytfpcblgkcbfdoaadoor", sum := "817ef1bba4836559dcee4b920a06a43f9e252287640e31ce6de6e304aef331bc", func := "backstep/backsteplaw33.DebuggerNext", spec := "debuggerNext", unfollowed := true, recurses := true, named := ["backstep/isa.table"], apart := false, laid := [("backstep/isa.table", laid_backstep_isa_table)] }
def DebuggerNextSaid : Prop := debuggerNextRow.holds Tryd.pinned (OpenSpec.ofChange debuggerNextSpec)

/-- ITS FALSE NEIGHBOUR: 'it returns false'. Refute it at one input. -/
def debuggerNextWrong : ChangeSpec := { name := "debuggerNext", fn := fun _ => fun
  | [d1, d2, d3] => { results := [.lit (.bool false)], args := [d1, d2, d3] }
  | _ => none }
def DebuggerNextWrongFalsely : Prop := debuggerNextRow.holds Tryd.pinned (OpenSpec.ofChange debuggerNextWrong)

/-- 'backsteplaw33.DebuggerNew': WHATEVER THE INPUT: true; the input reads as it did. -/
def debuggerNewSpec : ChangeSpec := { name := "debuggerNew", fn := fun _ => fun
  | [d1, d2] => { results := [.lit (.bool true)], args := [d1, d2] }
  | _ => none }
def debuggerNewRow : OpenClaim := { program := "ytfpcblgkcbfdoaadoor", sum := "817ef1bba4836559dcee4b920a06a43f9e252287640e31ce6de6e304aef331bc", func := "backstep/backsteplaw33.DebuggerNew", spec := "debuggerNew", unfollowed := true, recurses := true, named := ["backstep/isa.table"], apart := false, laid := [("backstep/isa.table", laid_backstep_isa_table)] }
def DebuggerNewSaid : Prop := debuggerNewRow.holds Tryd.pinned (OpenSpec.ofChange debuggerNewSpec)

/-- ITS FALSE NEIGHBOUR: 'it returns false'. Refute it at one input. -/
def debuggerNewWrong : ChangeSpec := { name := "debuggerNew", fn := fun _ => fun
  | [d1, d2] => { results := [.lit (.bool false)], args := [d1, d2] }
  | _ => none }
def DebuggerNewWrongFalsely : Prop := debuggerNewRow.holds Tryd.pinned (OpenSpec.ofChange debuggerNewWrong)

/-- 'backsteplaw33.DebuggerSteps': WHATEVER THE INPUT: true; the input reads as it did. -/
def debuggerStepsSpec : ChangeSpec := { name := "debuggerSteps", fn := fun _ => fun
  | [d1, d2, d3] => { results := [.lit (.bool true)], args := [d1, d2, d3] }
  | _ => none }
def debuggerStepsRow : OpenClaim := { program := "ytfpcblgkcbfdoaadoor", sum := "817ef1bba4836559dcee4b920a06a43f9e252287640e31ce6de6e304aef331bc", func := "backstep/backsteplaw33.DebuggerSteps", spec := "debuggerSteps", unfollowed := true, recurses := true, named := ["backstep/isa.table"], apart := false, laid := [("backstep/isa.table", laid_backstep_isa_table)] }
def DebuggerStepsSaid : Prop := debuggerStepsRow.holds Tryd.pinned (OpenSpec.ofChange debuggerStepsSpec)

/-- ITS FALSE NEIGHBOUR: 'it returns false'. Refute it at one input. -/
def debuggerStepsWrong : ChangeSpec := { name := "debuggerSteps", fn := fun _ => fun
  | [d1, d2, d3] => { results := [.lit (.bool false)], args := [d1, d2, d3] }
  | _ => none }
def DebuggerStepsWrongFalsely : Prop := debuggerStepsRow.holds Tryd.pinned (OpenSpec.ofChange debuggerStepsWrong)

/-- 'backsteplaw33.DebuggerSeeks': WHATEVER THE INPUT: true; the input reads as it did. -/
def debuggerSeeksSpec : ChangeSpec := { name := "debuggerSeeks", fn := fun _ => fun
  | [d1, d2, d3] => { results := [.lit (.bool true)], args := [d1, d2, d3] }
  | _ => none }
def debuggerSeeksRow : OpenClaim := { program := "ytfpcblgkcbfdoaadoor", sum := "817ef1bba4836559dcee4b920a06a43f9e252287640e31ce6de6e304aef331bc", func := "backstep/backsteplaw33.DebuggerSeeks", spec := "debuggerSeeks", unfollowed := true, recurses := true, named := ["backstep/isa.table"], apart := false, laid := [("backstep/isa.table", laid_backstep_isa_table)] }
def DebuggerSeeksSaid : Prop := debuggerSeeksRow.holds Tryd.pinned (OpenSpec.ofChange debuggerSeeksSpec)

/-- ITS FALSE NEIGHBOUR: 'it returns false'. Refute it at one input. -/
def debuggerSeeksWrong : ChangeSpec := { name := "debuggerSeeks", fn := fun _ => fun
  | [d1, d2, d3] => { results := [.lit (.bool false)], args := [d1, d2, d3] }
  | _ => none }
def DebuggerSeeksWrongFalsely : Prop := debuggerSeeksRow.holds Tryd.pinned (OpenSpec.ofChange debuggerSeeksWrong)

/-- 'backsteplaw33.DebuggerAgain': WHATEVER THE INPUT: true; the input reads as it did. -/
def debuggerAgainSpec : ChangeSpec := { name := "debuggerAgain", fn := fun _ => fun
  | [d1, d2, d3, d4] => { results := [.lit (.bool true)], args := [d1, d2, d3, d4] }
  | _ => none }
def debuggerAgainRow : OpenClaim := { program := "ytfpcblgkcbfdoaadoor", sum := "817ef1bba4836559dcee4b920a06a43f9e252287640e31ce6de6e304aef331bc", func := "backstep/backsteplaw33.DebuggerAgain", spec := "debuggerAgain", unfollowed := true, recurses := true, named := ["backstep/isa.table"], apart := false, laid := [("backstep/isa.table", laid_backstep_isa_table)] }
def DebuggerAgainSaid : Prop := debuggerAgainRow.holds Tryd.pinned (OpenSpec.ofChange debuggerAgainSpec)

/-- ITS FALSE NEIGHBOUR: 'it returns false'. Refute it at one input. -/
def debuggerAgainWrong : ChangeSpec := { name := "debuggerAgain", fn := fun _ => fun
  | [d1, d2, d3, d4] => { results := [.lit (.bool false)], args := [d1, d2, d3, d4] }
  | _ => none }
def DebuggerAgainWrongFalsely : Prop := debuggerAgainRow.holds Tryd.pinned (OpenSpec.ofChange debuggerAgainWrong)

/-- 'backsteplaw33.DebuggerFinish': WHATEVER THE INPUT: true; the input reads as it did. -/
def debuggerFinishSpec : ChangeSpec := { name := "debuggerFinish", fn := fun _ => fun
  | [d1, d2, d3, d4] => { results := [.lit (.bool true)], args := [d1, d2, d3, d4] }
  | _ => none }
def debuggerFinishRow : OpenClaim := { program := "ytfpcblgkcbfdoaadoor", sum := "817ef1bba4836559dcee4b920a06a43f9e252287640e31ce6de6e304aef331bc", func := "backstep/backsteplaw33.DebuggerFinish", spec := "debuggerFinish", unfollowed := true, recurses := true, named := ["backstep/isa.table"], apart := false, laid := [("backstep/isa.table", laid_backstep_isa_table)] }
def DebuggerFinishSaid : Prop := debuggerFinishRow.holds Tryd.pinned (OpenSpec.ofChange debuggerFinishSpec)

/-- ITS FALSE NEIGHBOUR: 'it returns false'. Refute it at one input. -/
def debuggerFinishWrong : ChangeSpec := { name := "debuggerFinish", fn := fun _ => fun
  | [d1, d2, d3, d4] => { results := [.lit (.bool false)], args := [d1, d2, d3, d4] }
  | _ => none }
def DebuggerFinishWrongFalsely : Prop := debuggerFinishRow.holds Tryd.pinned (OpenSpec.ofChange debuggerFinishWrong)

/-- 'backsteplaw33.DebuggerNone': WHATEVER THE INPUT: true; the input reads as it did. -/
def debuggerNoneSpec : ChangeSpec := { name := "debuggerNone", fn := fun _ => fun
  | [d1, d2, d3] => { results := [.lit (.bool true)], args := [d1, d2, d3] }
  | _ => none }
def debuggerNoneRow : OpenClaim := { program := "ytfpcblgkcbfdoaadoor", sum := "817ef1bba4836559dcee4b920a06a43f9e252287640e31ce6de6e304aef331bc", func := "backstep/backsteplaw33.DebuggerNone", spec := "debuggerNone", unfollowed := true, recurses := true, named := ["backstep/isa.table"], apart := false, laid := [("backstep/isa.table", laid_backstep_isa_table)] }
def DebuggerNoneSaid : Prop := debuggerNoneRow.holds Tryd.pinned (OpenSpec.ofChange debuggerNoneSpec)

/-- ITS FALSE NEIGHBOUR: 'it returns false'. Refute it at one input. -/
def debuggerNoneWrong : ChangeSpec := { name := "debuggerNone", fn := fun _ => fun
  | [d1, d2, d3] => { results := [.lit (.bool false)], args := [d1, d2, d3] }
  | _ => none }
def DebuggerNoneWrongFalsely : Prop := debuggerNoneRow.holds Tryd.pinned (OpenSpec.ofChange debuggerNoneWrong)

/-- 'backsteplaw33.DebuggerRuns': WHATEVER THE INPUT: true; the input reads as it did. -/
def debuggerRunsSpec : ChangeSpec := { name := "debuggerRuns", fn := fun _ => fun
  | [d1, d2, d3] => { results := [.lit (.bool true)], args := [d1, d2, d3] }
  | _ => none }
def debuggerRunsRow : OpenClaim := { program := "ytfpcblgkcbfdoaadoor", sum := "817ef1bba4836559dcee4b920a06a43f9e252287640e31ce6de6e304aef331bc", func := "backstep/backsteplaw33.DebuggerRuns", spec := "debuggerRuns", unfollowed := true, recurses := true, named := ["backstep/isa.table"], apart := false, laid := [("backstep/isa.table", laid_backstep_isa_table)] }
def DebuggerRunsSaid : Prop := debuggerRunsRow.holds Tryd.pinned (OpenSpec.ofChange debuggerRunsSpec)

/-- ITS FALSE NEIGHBOUR: 'it returns false'. Refute it at one input. -/
def debuggerRunsWrong : ChangeSpec := { name := "debuggerRuns", fn := fun _ => fun
  | [d1, d2, d3] => { results := [.lit (.bool false)], args := [d1, d2, d3] }
  | _ => none }
def DebuggerRunsWrongFalsely : Prop := debuggerRunsRow.holds Tryd.pinned (OpenSpec.ofChange debuggerRunsWrong)

/- THE SECOND FORM. 'bulk': how many values and letters a reading holds, each counted each time it is reached (what is shared counts as often as it is met; a slice's spare places count too). A statement '..UptoSaid' is the law's where the arguments, and the package variables that the reading takes, are together of bulk at most 1048576: NARROWER than '..Said'. Prove '..Said' where nothing that the law and all that it calls make is longer than what came in: it says more and counts as full. Else prove '..UptoSaid'. A law counts once. -/
mutual
def uptoBulk {H : Type} : DataW H → Nat
  | .lit (.string bytes) => bytes.length + 1
  | .lit _ => 1
  | .nil => 1
  | .ptr d => uptoBulk d + 1
  | .slice elems spare => uptoBulkAll elems + uptoBulkAll spare + 1
  | .agg parts => uptoBulkAll parts + 1
  | .iface _ d => uptoBulk d + 1
  | .map entries => uptoBulkEntries entries + 1
  | .held _ => 1
def uptoBulkAll {H : Type} : List (DataW H) → Nat
  | [] => 0
  | d :: r => uptoBulk d + uptoBulkAll r
def uptoBulkEntries {H : Type} : List (Lit × DataW H) → Nat
  | [] => 0
  | x :: r => uptoBulkEntry x + uptoBulkEntries r
def uptoBulkEntry {H : Type} : Lit × DataW H → Nat
  | (.string bytes, d) => bytes.length + uptoBulk d + 1
  | (_, d) => uptoBulk d + 1
 end
def uptoSmall : (H : Type) → List (DataW H) → Bool := fun _ ds => decide (uptoBulkAll ds ≤ 1048576)
def OpenSpec.upto (s : _root_.Go.ChangeSpec) : _root_.Go.OpenSpec := { _root_.Go.OpenSpec.ofChange s with cond := some uptoSmall }

/-- 'backsteplaw33.DebuggerNext', WHERE WHAT IT READS IS OF BULK AT MOST 1048576: true; the input reads as it did. -/
def debuggerNextUptoRow : OpenClaim := { program := "ytfpcblgkcbfdoaadoor", sum := "817ef1bba4836559dcee4b920a06a43f9e252287640e31ce6de6e304aef331bc", func := "backstep/backsteplaw33.DebuggerNext", spec := "debuggerNext", unfollowed := true, recurses := true, named := ["backstep/isa.table"], apart := false, laid := [("backstep/isa.table", laid_backstep_isa_table)], narrowed := true }
def DebuggerNextUptoSaid : Prop := debuggerNextUptoRow.holds Tryd.pinned (OpenSpec.upto debuggerNextSpec)

/-- 'backsteplaw33.DebuggerNew', WHERE WHAT IT READS IS OF BULK AT MOST 1048576: true; the input reads as it did. -/
def debuggerNewUptoRow : OpenClaim := { program := "ytfpcblgkcbfdoaadoor", sum := "817ef1bba4836559dcee4b920a06a43f9e252287640e31ce6de6e304aef331bc", func := "backstep/backsteplaw33.DebuggerNew", spec := "debuggerNew", unfollowed := true, recurses := true, named := ["backstep/isa.table"], apart := false, laid := [("backstep/isa.table", laid_backstep_isa_table)], narrowed := true }
def DebuggerNewUptoSaid : Prop := debuggerNewUptoRow.holds Tryd.pinned (OpenSpec.upto debuggerNewSpec)

/-- 'backsteplaw33.DebuggerSteps', WHERE WHAT IT READS IS OF BULK AT MOST 1048576: true; the input reads as it did. -/
def debuggerStepsUptoRow : OpenClaim := { program := "ytfpcblgkcbfdoaadoor", sum := "817ef1bba4836559dcee4b920a06a43f9e252287640e31ce6de6e304aef331bc", func := "backstep/backsteplaw33.DebuggerSteps", spec := "debuggerSteps", unfollowed := true, recurses := true, named := ["backstep/isa.table"], apart := false, laid := [("backstep/isa.table", laid_backstep_isa_table)], narrowed := true }
def DebuggerStepsUptoSaid : Prop := debuggerStepsUptoRow.holds Tryd.pinned (OpenSpec.upto debuggerStepsSpec)

/-- 'backsteplaw33.DebuggerSeeks', WHERE WHAT IT READS IS OF BULK AT MOST 1048576: true; the input reads as it did. -/
def debuggerSeeksUptoRow : OpenClaim := { program := "ytfpcblgkcbfdoaadoor", sum := "817ef1bba4836559dcee4b920a06a43f9e252287640e31ce6de6e304aef331bc", func := "backstep/backsteplaw33.DebuggerSeeks", spec := "debuggerSeeks", unfollowed := true, recurses := true, named := ["backstep/isa.table"], apart := false, laid := [("backstep/isa.table", laid_backstep_isa_table)], narrowed := true }
def DebuggerSeeksUptoSaid : Prop := debuggerSeeksUptoRow.holds Tryd.pinned (OpenSpec.upto debuggerSeeksSpec)

/-- 'backsteplaw33.DebuggerAgain', WHERE WHAT IT READS IS OF BULK AT MOST 1048576: true; the input reads as it did. -/
def debuggerAgainUptoRow : OpenClaim := { program := "ytfpcblgkcbfdoaadoor", sum := "817ef1bba4836559dcee4b920a06a43f9e252287640e31ce6de6e304aef331bc", func := "backstep/backsteplaw33.DebuggerAgain", spec := "debuggerAgain", unfollowed := true, recurses := true, named := ["backstep/isa.table"], apart := false, laid := [("backstep/isa.table", laid_backstep_isa_table)], narrowed := true }
def DebuggerAgainUptoSaid : Prop := debuggerAgainUptoRow.holds Tryd.pinned (OpenSpec.upto debuggerAgainSpec)

/-- 'backsteplaw33.DebuggerFinish', WHERE WHAT IT READS IS OF BULK AT MOST 1048576: true; the input reads as it did. -/
def debuggerFinishUptoRow : OpenClaim := { program := "ytfpcblgkcbfdoaadoor", sum := "817ef1bba4836559dcee4b920a06a43f9e252287640e31ce6de6e304aef331bc", func := "backstep/backsteplaw33.DebuggerFinish", spec := "debuggerFinish", unfollowed := true, recurses := true, named := ["backstep/isa.table"], apart := false, laid := [("backstep/isa.table", laid_backstep_isa_table)], narrowed := true }
def DebuggerFinishUptoSaid : Prop := debuggerFinishUptoRow.holds Tryd.pinned (OpenSpec.upto debuggerFinishSpec)

/-- 'backsteplaw33.DebuggerNone', WHERE WHAT IT READS IS OF BULK AT MOST 1048576: true; the input reads as it did. -/
def debuggerNoneUptoRow : OpenClaim := { program := "ytfpcblgkcbfdoaadoor", sum := "817ef1bba4836559dcee4b920a06a43f9e252287640e31ce6de6e304aef331bc", func := "backstep/backsteplaw33.DebuggerNone", spec := "debuggerNone", unfollowed := true, recurses := true, named := ["backstep/isa.table"], apart := false, laid := [("backstep/isa.table", laid_backstep_isa_table)], narrowed := true }
def DebuggerNoneUptoSaid : Prop := debuggerNoneUptoRow.holds Tryd.pinned (OpenSpec.upto debuggerNoneSpec)

/-- 'backsteplaw33.DebuggerRuns', WHERE WHAT IT READS IS OF BULK AT MOST 1048576: true; the input reads as it did. -/
def debuggerRunsUptoRow : OpenClaim := { program := "ytfpcblgkcbfdoaadoor", sum := "817ef1bba4836559dcee4b920a06a43f9e252287640e31ce6de6e304aef331bc", func := "backstep/backsteplaw33.DebuggerRuns", spec := "debuggerRuns", unfollowed := true, recurses := true, named := ["backstep/isa.table"], apart := false, laid := [("backstep/isa.table", laid_backstep_isa_table)], narrowed := true }
def DebuggerRunsUptoSaid : Prop := debuggerRunsUptoRow.holds Tryd.pinned (OpenSpec.upto debuggerRunsSpec)

end Rows
end Go.Proofs.YtfpcblgkcbfdoaaDoor
