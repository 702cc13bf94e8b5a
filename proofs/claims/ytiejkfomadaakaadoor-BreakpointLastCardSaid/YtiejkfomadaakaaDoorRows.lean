/-
  NARROWER THAN 'FOR EVERY INPUT', by the rows' own cells (each row's printed sentence says how): BreakpointNext: laid · BreakpointPrev: laid · BreakpointBoth: laid · BreakpointTests: laid · BreakpointBisect: laid · BreakpointNone: laid · BreakpointLast: laid · BreakpointStays: laid.
  DERIVED. THE GIVEN ROWS OF THIS SEAT. 8 by the template 'for every input the law returns true; each argument reads behind the call as it read before'; 0 by the template 'total and deterministic' (their statements: YtiejkfomadaakaaDoorTotals.lean).
  GIVEN WITH THE SEED: the statements are not yours to turn. If you find one false, say at which input.
  Laid BY PROGRAM, IN A SANDBOX (cutbox-rows.mjs): the forced cells as the released guide's own fill.sh prints them over the translation 0d7fcfc88d084629… (all of the seat's roots in one cut). By AI agents, Wed Nov 11 2026. No macro, syntax, notation, axiom, sorry.
-/
import Derived.Test.YtiejkfomadaakaaDoorChecked
import GoSem.Claim
import GoSem.ClaimJoined
import GoSem.ClaimMapViews
import Derived.JoinedTies
import Derived.KernelRfl
namespace Go.Proofs.YtiejkfomadaakaaDoor
/- THE CELL 'sum', in the pinned program and in every row, IS THE sha256 OF THE DUMP (.gsa) THAT YtiejkfomadaakaaDoorProg.lean LOADS. Nothing in Lean hashes anything: it is a label: what it is worth is what the hold of that sum in a sandbox is worth. -/
noncomputable def Tryd.pinned : Pinned := { name := "ytiejkfomadaakaadoor", sum := "0d7fcfc88d084629659ef1ec2aa57982927ff057a1f609c5c2b2b19b91234770", checked := Tryd.checked }
namespace Rows
def none {H : Type} : Left H := { results := [], args := [] }

/- WHAT THE LISTED PACKAGE-LEVEL VARIABLES READ AS WHEN THE CALL BEGINS. Each datum BY PROGRAM (the guide's laid-datum.mjs) off the statement by which the dump's own 'gosem.cut.vars' lays the variable. In a bare row this is a premise. The card (YtiejkfomadaakaaDoorCards.lean) ties it to the program's text. -/
def laid_backstep_isa_table {H : Type} : DataW H := .agg [.agg [.lit (.string [110, 111, 112]), .lit (.int .i64 0)], .agg [.lit (.string [97, 100, 100]), .lit (.int .i64 2)], .agg [.lit (.string [115, 117, 98]), .lit (.int .i64 2)], .agg [.lit (.string [120, 111, 114]), .lit (.int .i64 2)], .agg [.lit (.string [97, 100, 100, 105]), .lit (.int .i64 2)], .agg [.lit (.string [115, 117, 98, 105]), .lit (.int .i64 2)], .agg [.lit (.string [120, 111, 114, 105]), .lit (.int .i64 2)], .agg [.lit (.string [115, 119, 97, 112]), .lit (.int .i64 2)], .agg [.lit (.string [110, 101, 103]), .lit (.int .i64 1)], .agg [.lit (.string [99, 97, 108, 99]), .lit (.int .i64 4)], .agg [.lit (.string [109, 101, 109]), .lit (.int .i64 2)], .agg [.lit (.string [105, 100, 120]), .lit (.int .i64 4)], .agg [.lit (.string [112, 117, 115, 104]), .lit (.int .i64 2)], .agg [.lit (.string [112, 111, 112]), .lit (.int .i64 2)], .agg [.lit (.string [116, 111, 112]), .lit (.int .i64 2)], .agg [.lit (.string [115, 105, 122, 101]), .lit (.int .i64 2)], .agg [.lit (.string [115, 119, 97, 112, 115]), .lit (.int .i64 2)], .agg [.lit (.string [114, 101, 97, 100]), .lit (.int .i64 1)], .agg [.lit (.string [117, 110, 114, 101, 97, 100]), .lit (.int .i64 1)], .agg [.lit (.string [119, 114, 105, 116, 101]), .lit (.int .i64 1)], .agg [.lit (.string [117, 110, 119, 114, 105, 116, 101]), .lit (.int .i64 1)], .agg [.lit (.string [122, 101, 114, 111]), .lit (.int .i64 2)], .agg [.lit (.string [106, 109, 112]), .lit (.int .i64 1)], .agg [.lit (.string [106, 109, 112, 122]), .lit (.int .i64 2)], .agg [.lit (.string [106, 109, 112, 110]), .lit (.int .i64 2)], .agg [.lit (.string [108, 97, 110, 100]), .lit (.int .i64 1)], .agg [.lit (.string [108, 97, 110, 100, 122]), .lit (.int .i64 2)], .agg [.lit (.string [108, 97, 110, 100, 110]), .lit (.int .i64 2)], .agg [.lit (.string [102, 114, 97, 109, 101]), .lit (.int .i64 2)], .agg [.lit (.string [117, 110, 102, 114, 97, 109, 101]), .lit (.int .i64 2)], .agg [.lit (.string [99, 97, 108, 108]), .lit (.int .i64 1)], .agg [.lit (.string [117, 110, 99, 97, 108, 108]), .lit (.int .i64 1)], .agg [.lit (.string [115, 116, 97, 114, 116]), .lit (.int .i64 1)], .agg [.lit (.string [101, 110, 100]), .lit (.int .i64 1)], .agg [.lit (.string [104, 97, 108, 116]), .lit (.int .i64 0)]]

/-- 'backsteplaw34.BreakpointNext': WHATEVER THE INPUT: true; the input reads as it did. -/
def breakpointNextSpec : ChangeSpec := { name := "breakpointNext", fn := fun _ => fun
  | [d1, d2, d3, d4, d5] => { results := [.lit (.bool true)], args := [d1, d2, d3, d4, d5] }
  | _ => none }
def breakpointNextRow : OpenClaim := { program := "ytiejkfomadaakaadoor", sum := "0d7fcfc88d084629659ef1ec2aa57982927ff057a1f609c5c2b2b19b91234770", func := "backstep/backsteplaw34.BreakpointNext", spec := "breakpointNext", unfollowed := true, recurses := true, named := ["backstep/isa.table"], apart := false, laid := [("backstep/isa.table", laid_backstep_isa_table)] }
def BreakpointNextSaid : Prop := breakpointNextRow.holds Tryd.pinned (OpenSpec.ofChange breakpointNextSpec)

/-- ITS FALSE NEIGHBOUR: 'it returns false'. Refute it at one input. -/
def breakpointNextWrong : ChangeSpec := { name := "breakpointNext", fn := fun _ => fun
  | [d1, d2, d3, d4, d5] => { results := [.lit (.bool false)], args := [d1, d2, d3, d4, d5] }
  | _ => none }
def BreakpointNextWrongFalsely : Prop := breakpointNextRow.holds Tryd.pinned (OpenSpec.ofChange breakpointNextWrong)

/-- 'backsteplaw34.BreakpointPrev': WHATEVER THE INPUT: true; the input reads as it did. -/
def breakpointPrevSpec : ChangeSpec := { name := "breakpointPrev", fn := fun _ => fun
  | [d1, d2, d3, d4, d5] => { results := [.lit (.bool true)], args := [d1, d2, d3, d4, d5] }
  | _ => none }
def breakpointPrevRow : OpenClaim := { program := "ytiejkfomadaakaadoor", sum := "0d7fcfc88d084629659ef1ec2aa57982927ff057a1f609c5c2b2b19b91234770", func := "backstep/backsteplaw34.BreakpointPrev", spec := "breakpointPrev", unfollowed := true, recurses := true, named := ["backstep/isa.table"], apart := false, laid := [("backstep/isa.table", laid_backstep_isa_table)] }
def BreakpointPrevSaid : Prop := breakpointPrevRow.holds Tryd.pinned (OpenSpec.ofChange breakpointPrevSpec)

/-- ITS FALSE NEIGHBOUR: 'it returns false'. Refute it at one input. -/
def breakpointPrevWrong : ChangeSpec := { name := "breakpointPrev", fn := fun _ => fun
  | [d1, d2, d3, d4, d5] => { results := [.lit (.bool false)], args := [d1, d2, d3, d4, d5] }
  | _ => none }
def BreakpointPrevWrongFalsely : Prop := breakpointPrevRow.holds Tryd.pinned (OpenSpec.ofChange breakpointPrevWrong)

/-- 'backsteplaw34.BreakpointBoth': WHATEVER THE INPUT: true; the input reads as it did. -/
def breakpointBothSpec : ChangeSpec := { name := "breakpointBoth", fn := fun _ => fun
  | [d1, d2, d3] => { results := [.lit (.bool true)], args := [d1, d2, d3] }
  | _ => none }
def breakpointBothRow : OpenClaim := { program := "ytiejkfomadaakaadoor", sum := "0d7fcfc88d084629659ef1ec2aa57982927ff057a1f609c5c2b2b19b91234770", func := "backstep/backsteplaw34.BreakpointBoth", spec := "breakpointBoth", unfollowed := true, recurses := true, named := ["backstep/isa.table"], apart := false, laid := [("backstep/isa.table", laid_backstep_isa_table)] }
def BreakpointBothSaid : Prop := breakpointBothRow.holds Tryd.pinned (OpenSpec.ofChange breakpointBothSpec)

/-- ITS FALSE NEIGHBOUR: 'it returns false'. Refute it at one input. -/
def breakpointBothWrong : ChangeSpec := { name := "breakpointBoth", fn := fun _ => fun
  | [d1, d2, d3] => { results := [.lit (.bool false)], args := [d1, d2, d3] }
  | _ => none }
def BreakpointBothWrongFalsely : Prop := breakpointBothRow.holds Tryd.pinned (OpenSpec.ofChange breakpointBothWrong)

/-- 'backsteplaw34.BreakpointTests': WHATEVER THE INPUT: true; the input reads as it did. -/
def breakpointTestsSpec : ChangeSpec := { name := "breakpointTests", fn := fun _ => fun
  | [d1, d2, d3] => { results := [.lit (.bool true)], args := [d1, d2, d3] }
  | _ => none }
def breakpointTestsRow : OpenClaim := { program := "ytiejkfomadaakaadoor", sum := "0d7fcfc88d084629659ef1ec2aa57982927ff057a1f609c5c2b2b19b91234770", func := "backstep/backsteplaw34.BreakpointTests", spec := "breakpointTests", unfollowed := true, recurses := true, named := ["backstep/isa.table"], apart := false, laid := [("backstep/isa.table", laid_backstep_isa_table)] }
def BreakpointTestsSaid : Prop := breakpointTestsRow.holds Tryd.pinned (OpenSpec.ofChange breakpointTestsSpec)

/-- ITS FALSE NEIGHBOUR: 'it returns false'. Refute it at one input. -/
def breakpointTestsWrong : ChangeSpec := { name := "breakpointTests", fn := fun _ => fun
  | [d1, d2, d3] => { results := [.lit (.bool false)], args := [d1, d2, d3] }
  | _ => none }
def BreakpointTestsWrongFalsely : Prop := breakpointTestsRow.holds Tryd.pinned (OpenSpec.ofChange breakpointTestsWrong)

/-- 'backsteplaw34.BreakpointBisect': WHATEVER THE INPUT: true; the input reads as it did. -/
def breakpointBisectSpec : ChangeSpec := { name := "breakpointBisect", fn := fun _ => fun
  | [d1, d2, d3, d4, d5, d6] => { results := [.lit (.bool true)], args := [d1, d2, d3, d4, d5, d6] }
  | _ => none }
def breakpointBisectRow : OpenClaim := { program := "ytiejkfomadaakaadoor", sum := "0d7fcfc88d084629659ef1ec2aa57982927ff057a1f609c5c2b2b19b91234770", func := "backstep/backsteplaw34.BreakpointBisect", spec := "breakpointBisect", unfollowed := true, recurses := true, named := ["backstep/isa.table"], apart := false, laid := [("backstep/isa.table", laid_backstep_isa_table)] }
def BreakpointBisectSaid : Prop := breakpointBisectRow.holds Tryd.pinned (OpenSpec.ofChange breakpointBisectSpec)

/-- ITS FALSE NEIGHBOUR: 'it returns false'. Refute it at one input. -/
def breakpointBisectWrong : ChangeSpec := { name := "breakpointBisect", fn := fun _ => fun
  | [d1, d2, d3, d4, d5, d6] => { results := [.lit (.bool false)], args := [d1, d2, d3, d4, d5, d6] }
  | _ => none }
def BreakpointBisectWrongFalsely : Prop := breakpointBisectRow.holds Tryd.pinned (OpenSpec.ofChange breakpointBisectWrong)

/-- 'backsteplaw34.BreakpointNone': WHATEVER THE INPUT: true; the input reads as it did. -/
def breakpointNoneSpec : ChangeSpec := { name := "breakpointNone", fn := fun _ => fun
  | [d1, d2, d3] => { results := [.lit (.bool true)], args := [d1, d2, d3] }
  | _ => none }
def breakpointNoneRow : OpenClaim := { program := "ytiejkfomadaakaadoor", sum := "0d7fcfc88d084629659ef1ec2aa57982927ff057a1f609c5c2b2b19b91234770", func := "backstep/backsteplaw34.BreakpointNone", spec := "breakpointNone", unfollowed := true, recurses := true, named := ["backstep/isa.table"], apart := false, laid := [("backstep/isa.table", laid_backstep_isa_table)] }
def BreakpointNoneSaid : Prop := breakpointNoneRow.holds Tryd.pinned (OpenSpec.ofChange breakpointNoneSpec)

/-- ITS FALSE NEIGHBOUR: 'it returns false'. Refute it at one input. -/
def breakpointNoneWrong : ChangeSpec := { name := "breakpointNone", fn := fun _ => fun
  | [d1, d2, d3] => { results := [.lit (.bool false)], args := [d1, d2, d3] }
  | _ => none }
def BreakpointNoneWrongFalsely : Prop := breakpointNoneRow.holds Tryd.pinned (OpenSpec.ofChange breakpointNoneWrong)

/-- 'backsteplaw34.BreakpointLast': WHATEVER THE INPUT: true; the input reads as it did. -/
def breakpointLastSpec : ChangeSpec := { name := "breakpointLast", fn := fun _ => fun
  | [d1, d2, d3, d4, d5] => { results := [.lit (.bool true)], args := [d1, d2, d3, d4, d5] }
  | _ => none }
def breakpointLastRow : OpenClaim := { program := "ytiejkfomadaakaadoor", sum := "0d7fcfc88d084629659ef1ec2aa57982927ff057a1f609c5c2b2b19b91234770", func := "backstep/backsteplaw34.BreakpointLast", spec := "breakpointLast", unfollowed := true, recurses := true, named := ["backstep/isa.table"], apart := false, laid := [("backstep/isa.table", laid_backstep_isa_table)] }
def BreakpointLastSaid : Prop := breakpointLastRow.holds Tryd.pinned (OpenSpec.ofChange breakpointLastSpec)

/-- ITS FALSE NEIGHBOUR: 'it returns false'. Refute it at one input. -/
def breakpointLastWrong : ChangeSpec := { name := "breakpointLast", fn := fun _ => fun
  | [d1, d2, d3, d4, d5] => { results := [.lit (.bool false)], args := [d1, d2, d3, d4, d5] }
  | _ => none }
def BreakpointLastWrongFalsely : Prop := breakpointLastRow.holds Tryd.pinned (OpenSpec.ofChange breakpointLastWrong)

/-- 'backsteplaw34.BreakpointStays': WHATEVER THE INPUT: true; the input reads as it did. -/
def breakpointStaysSpec : ChangeSpec := { name := "breakpointStays", fn := fun _ => fun
  | [d1, d2, d3, d4] => { results := [.lit (.bool true)], args := [d1, d2, d3, d4] }
  | _ => none }
def breakpointStaysRow : OpenClaim := { program := "ytiejkfomadaakaadoor", sum := "0d7fcfc88d084629659ef1ec2aa57982927ff057a1f609c5c2b2b19b91234770", func := "backstep/backsteplaw34.BreakpointStays", spec := "breakpointStays", unfollowed := true, recurses := true, named := ["backstep/isa.table"], apart := false, laid := [("backstep/isa.table", laid_backstep_isa_table)] }
def BreakpointStaysSaid : Prop := breakpointStaysRow.holds Tryd.pinned (OpenSpec.ofChange breakpointStaysSpec)

/-- ITS FALSE NEIGHBOUR: 'it returns false'. Refute it at one input. -/
def breakpointStaysWrong : ChangeSpec := { name := "breakpointStays", fn := fun _ => fun
  | [d1, d2, d3, d4] => { results := [.lit (.bool false)], args := [d1, d2, d3, d4] }
  | _ => none }
def BreakpointStaysWrongFalsely : Prop := breakpointStaysRow.holds Tryd.pinned (OpenSpec.ofChange breakpointStaysWrong)

/- THE SECOND FORM. 'bulk': how many values and letters a reading holds, each counted each time it is reached (what is shared counts as often as it is met; a slice's spare places count too). A statement '..UptoSaid' is the law's where the arguments, and the package variables that the reading takes, are together of bulk at most 1048576: NARROWER than '..Said'. Prove '..Said' where nothing that the law and all that it calls make is longer than what came in: it says more and counts as full. Else prove '..UptoSaid'. A law counts once. -/
mutual
def uptoBulk {H : Type} : DataW H → Nat
  | .lit (.string bytes) => bytes.length + 1
  | .lit _ => 1
  | .nil => 1
  | .ptr d => uptoBulk d + 1
  | .slice elems spare => uptoBulkAll elems + uptoBulkAll spare + 1
  | .agg parts => uptoBulkAll parts + 1
  | .iface _ d => uptoBulk d + 1
  | .map entries => uptoBulkEntries entries + 1
  | .held _ => 1
def uptoBulkAll {H : Type} : List (DataW H) → Nat
  | [] => 0
  | d :: r => uptoBulk d + uptoBulkAll r
def uptoBulkEntries {H : Type} : List (Lit × DataW H) → Nat
  | [] => 0
  | x :: r => uptoBulkEntry x + uptoBulkEntries r
def uptoBulkEntry {H : Type} : Lit × DataW H → Nat
  | (.string bytes, d) => bytes.length + uptoBulk d + 1
  | (_, d) => uptoBulk d + 1
 end
def uptoSmall : (H : Type) → List (DataW H) → Bool := fun _ ds => decide (uptoBulkAll ds ≤ 1048576)
def OpenSpec.upto (s : _root_.Go.ChangeSpec) : _root_.Go.OpenSpec := { _root_.Go.OpenSpec.ofChange s with cond := some uptoSmall }

/-- 'backsteplaw34.BreakpointNext', WHERE WHAT IT READS IS OF BULK AT MOST 1048576: true; the input reads as it did. -/
def breakpointNextUptoRow : OpenClaim := { program := "ytiejkfomadaakaadoor", sum := "0d7fcfc88d084629659ef1ec2aa57982927ff057a1f609c5c2b2b19b91234770", func := "backstep/backsteplaw34.BreakpointNext", spec := "breakpointNext", unfollowed := true, recurses := true, named := ["backstep/isa.table"], apart := false, laid := [("backstep/isa.table", laid_backstep_isa_table)], narrowed := true }
def BreakpointNextUptoSaid : Prop := breakpointNextUptoRow.holds Tryd.pinned (OpenSpec.upto breakpointNextSpec)

/-- 'backsteplaw34.BreakpointPrev', WHERE WHAT IT READS IS OF BULK AT MOST 1048576: true; the input reads as it did. -/
def breakpointPrevUptoRow : OpenClaim := { program := "ytiejkfomadaakaadoor", sum := "0d7fcfc88d084629659ef1ec2aa57982927ff057a1f609c5c2b2b19b91234770", func := "backstep/backsteplaw34.BreakpointPrev", spec := "breakpointPrev", unfollowed := true, recurses := true, named := ["backstep/isa.table"], apart := false, laid := [("backstep/isa.table", laid_backstep_isa_table)], narrowed := true }
def BreakpointPrevUptoSaid : Prop := breakpointPrevUptoRow.holds Tryd.pinned (OpenSpec.upto breakpointPrevSpec)

/-- 'backsteplaw34.BreakpointBoth', WHERE WHAT IT READS IS OF BULK AT MOST 1048576: true; the input reads as it did. -/
def breakpointBothUptoRow : OpenClaim := { program := "ytiejkfomadaakaadoor", sum := "0d7fcfc88d084629659ef1ec2aa57982927ff057a1f609c5c2b2b19b91234770", func := "backstep/backsteplaw34.BreakpointBoth", spec := "breakpointBoth", unfollowed := true, recurses := true, named := ["backstep/isa.table"], apart := false, laid := [("backstep/isa.table", laid_backstep_isa_table)], narrowed := true }
def BreakpointBothUptoSaid : Prop := breakpointBothUptoRow.holds Tryd.pinned (OpenSpec.upto breakpointBothSpec)

/-- 'backsteplaw34.BreakpointTests', WHERE WHAT IT READS IS OF BULK AT MOST 1048576: true; the input reads as it did. -/
def breakpointTestsUptoRow : OpenClaim := { program := "ytiejkfomadaakaadoor", sum := "0d7fcfc88d084629659ef1ec2aa57982927ff057a1f609c5c2b2b19b91234770", func := "backstep/backsteplaw34.BreakpointTests", spec := "breakpointTests", unfollowed := true, recurses := true, named := ["backstep/isa.table"], apart := false, laid := [("backstep/isa.table", laid_backstep_isa_table)], narrowed := true }
def BreakpointTestsUptoSaid : Prop := breakpointTestsUptoRow.holds Tryd.pinned (OpenSpec.upto breakpointTestsSpec)

/-- 'backsteplaw34.BreakpointBisect', WHERE WHAT IT READS IS OF BULK AT MOST 1048576: true; the input reads as it did. -/
def breakpointBisectUptoRow : OpenClaim := { program := "ytiejkfomadaakaadoor", sum := "0d7fcfc88d084629659ef1ec2aa57982927ff057a1f609c5c2b2b19b91234770", func := "backstep/backsteplaw34.BreakpointBisect", spec := "breakpointBisect", unfollowed := true, recurses := true, named := ["backstep/isa.table"], apart := false, laid := [("backstep/isa.table", laid_backstep_isa_table)], narrowed := true }
def BreakpointBisectUptoSaid : Prop := breakpointBisectUptoRow.holds Tryd.pinned (OpenSpec.upto breakpointBisectSpec)

/-- 'backsteplaw34.BreakpointNone', WHERE WHAT IT READS IS OF BULK AT MOST 1048576: true; the input reads as it did. -/
def breakpointNoneUptoRow : OpenClaim := { program := "ytiejkfomadaakaadoor", sum := "0d7fcfc88d084629659ef1ec2aa57982927ff057a1f609c5c2b2b19b91234770", func := "backstep/backsteplaw34.BreakpointNone", spec := "breakpointNone", unfollowed := true, recurses := true, named := ["backstep/isa.table"], apart := false, laid := [("backstep/isa.table", laid_backstep_isa_table)], narrowed := true }
def BreakpointNoneUptoSaid : Prop := breakpointNoneUptoRow.holds Tryd.pinned (OpenSpec.upto breakpointNoneSpec)

/-- 'backsteplaw34.BreakpointLast', WHERE WHAT IT READS IS OF BULK AT MOST 1048576: true; the input reads as it did. -/
def breakpointLastUptoRow : OpenClaim := { program := "ytiejkfomadaakaadoor", sum := "0d7fcfc88d084629659ef1ec2aa57982927ff057a1f609c5c2b2b19b91234770", func := "backstep/backsteplaw34.BreakpointLast", spec := "breakpointLast", unfollowed := true, recurses := true, named := ["backstep/isa.table"], apart := false, laid := [("backstep/isa.table", laid_backstep_isa_table)], narrowed := true }
def BreakpointLastUptoSaid : Prop := breakpointLastUptoRow.holds Tryd.pinned (OpenSpec.upto breakpointLastSpec)

/-- 'backsteplaw34.BreakpointStays', WHERE WHAT IT READS IS OF BULK AT MOST 1048576: true; the input reads as it did. -/
def breakpointStaysUptoRow : OpenClaim := { program := "ytiejkfomadaakaadoor", sum := "0d7fcfc88d084629659ef1ec2aa57982927ff057a1f609c5c2b2b19b91234770", func := "backstep/backsteplaw34.BreakpointStays", spec := "breakpointStays", unfollowed := true, recurses := true, named := ["backstep/isa.table"], apart := false, laid := [("backstep/isa.table", laid_backstep_isa_table)], narrowed := true }
def BreakpointStaysUptoSaid : Prop := breakpointStaysUptoRow.holds Tryd.pinned (OpenSpec.upto breakpointStaysSpec)

end Rows
end Go.Proofs.YtiejkfomadaakaaDoor
