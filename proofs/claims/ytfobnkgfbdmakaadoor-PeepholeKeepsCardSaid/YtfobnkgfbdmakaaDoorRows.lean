/-
  NARROWER THAN 'FOR EVERY INPUT', by the rows' own cells (each row's printed sentence says how): PeepholeCancels: laid · PeepholeVanishes: laid · PeepholeOptimize: laid · PeepholeNormal: laid · PeepholeKeeps: laid · PeepholeInverse: laid.
  DERIVED. THE GIVEN ROWS OF THIS SEAT. 6 by the template 'for every input the law returns true; each argument reads behind the call as it read before'; 0 by the template 'total and deterministic' (their statements: YtfobnkgfbdmakaaDoorTotals.lean).
  GIVEN WITH THE SEED: the statements are not yours to turn. If you find one false, say at which input.
  Laid BY PROGRAM, IN A SANDBOX (cutbox-rows.mjs): the forced cells as the released guide's own fill.sh prints them over the translation 915af2e96e5a119f… (all of the seat's roots in one cut). By AI agents, Wed Nov 11 2026. No macro, syntax, notation, axiom, sorry.
-/
import Derived.Test.YtfobnkgfbdmakaaDoorChecked
import GoSem.Claim
import GoSem.ClaimJoined
import GoSem.ClaimMapViews
import Derived.JoinedTies
import Derived.KernelRfl
namespace Go.Proofs.YtfobnkgfbdmakaaDoor
/- THE CELL 'sum', in the pinned program and in every row, IS THE sha256 OF THE DUMP (.gsa) THAT YtfobnkgfbdmakaaDoorProg.lean LOADS. Nothing in Lean hashes anything: it is a label: what it is worth is what the hold of that sum in a sandbox is worth. -/
noncomputable def Tryd.pinned : Pinned := { name := "ytfobnkgfbdmakaadoor", sum := "915af2e96e5a119f3c5439bb19b1152792b699f65eea8d3e4c61c4d827dbe48c", checked := Tryd.checked }
namespace Rows
def none {H : Type} : Left H := { results := [], args := [] }

/- WHAT THE LISTED PACKAGE-LEVEL VARIABLES READ AS WHEN THE CALL BEGINS. Each datum BY PROGRAM (the guide's laid-datum.mjs) off the statement by which the dump's own 'gosem.cut.vars' lays the variable. In a bare row this is a premise. The card (YtfobnkgfbdmakaaDoorCards.lean) ties it to the program's text. -/
def laid_backstep_isa_table {H : Type} : DataW H := .agg [.agg [.lit (.string [110, 111, 112]), .lit (.int .i64 0)], .agg [.lit (.string [97, 100, 100]), .lit (.int .i64 2)], .agg [.lit (.string [115, 117, 98]), .lit (.int .i64 2)], .agg [.lit (.string [120, 111, 114]), .lit (.int .i64 2)], .agg [.lit (.string [97, 100, 100, 105]), .lit (.int .i64 2)], .agg [.lit (.string [115, 117, 98, 105]), .lit (.int .i64 2)], .agg [.lit (.string [120, 111, 114, 105]), .lit (.int .i64 2)], .agg [.lit (.string [115, 119, 97, 112]), .lit (.int .i64 2)], .agg [.lit (.string [110, 101, 103]), .lit (.int .i64 1)], .agg [.lit (.string [99, 97, 108, 99]), .lit (.int .i64 4)], .agg [.lit (.string [109, 101, 109]), .lit (.int .i64 2)], .agg [.lit (.string [105, 100, 120]), .lit (.int .i64 4)], .agg [.lit (.string [112, 117, 115, 104]), .lit (.int .i64 2)], .agg [.lit (.string [112, 111, 112]), .lit (.int .i64 2)], .agg [.lit (.string [116, 111, 112]), .lit (.int .i64 2)], .agg [.lit (.string [115, 105, 122, 101]), .lit (.int .i64 2)], .agg [.lit (.string [115, 119, 97, 112, 115]), .lit (.int .i64 2)], .agg [.lit (.string [114, 101, 97, 100]), .lit (.int .i64 1)], .agg [.lit (.string [117, 110, 114, 101, 97, 100]), .lit (.int .i64 1)], .agg [.lit (.string [119, 114, 105, 116, 101]), .lit (.int .i64 1)], .agg [.lit (.string [117, 110, 119, 114, 105, 116, 101]), .lit (.int .i64 1)], .agg [.lit (.string [122, 101, 114, 111]), .lit (.int .i64 2)], .agg [.lit (.string [106, 109, 112]), .lit (.int .i64 1)], .agg [.lit (.string [106, 109, 112, 122]), .lit (.int .i64 2)], .agg [.lit (.string [106, 109, 112, 110]), .lit (.int .i64 2)], .agg [.lit (.string [108, 97, 110, 100]), .lit (.int .i64 1)], .agg [.lit (.string [108, 97, 110, 100, 122]), .lit (.int .i64 2)], .agg [.lit (.string [108, 97, 110, 100, 110]), .lit (.int .i64 2)], .agg [.lit (.string [102, 114, 97, 109, 101]), .lit (.int .i64 2)], .agg [.lit (.string [117, 110, 102, 114, 97, 109, 101]), .lit (.int .i64 2)], .agg [.lit (.string [99, 97, 108, 108]), .lit (.int .i64 1)], .agg [.lit (.string [117, 110, 99, 97, 108, 108]), .lit (.int .i64 1)], .agg [.lit (.string [115, 116, 97, 114, 116]), .lit (.int .i64 1)], .agg [.lit (.string [101, 110, 100]), .lit (.int .i64 1)], .agg [.lit (.string [104, 97, 108, 116]), .lit (.int .i64 0)]]

/-- 'backsteplaw32.PeepholeCancels': WHATEVER THE INPUT: true; the input reads as it did. -/
def peepholeCancelsSpec : ChangeSpec := { name := "peepholeCancels", fn := fun _ => fun
  | [d1, d2] => { results := [.lit (.bool true)], args := [d1, d2] }
  | _ => none }
def peepholeCancelsRow : OpenClaim := { program := "ytfobnkgfbdmakaadoor", sum := "915af2e96e5a119f3c5439bb19b1152792b699f65eea8d3e4c61c4d827dbe48c", func := "backstep/backsteplaw32.PeepholeCancels", spec := "peepholeCancels", named := ["backstep/isa.table"], apart := false, laid := [("backstep/isa.table", laid_backstep_isa_table)] }
def PeepholeCancelsSaid : Prop := peepholeCancelsRow.holds Tryd.pinned (OpenSpec.ofChange peepholeCancelsSpec)

/-- ITS FALSE NEIGHBOUR: 'it returns false'. Refute it at one input. -/
def peepholeCancelsWrong : ChangeSpec := { name := "peepholeCancels", fn := fun _ => fun
  | [d1, d2] => { results := [.lit (.bool false)], args := [d1, d2] }
  | _ => none }
def PeepholeCancelsWrongFalsely : Prop := peepholeCancelsRow.holds Tryd.pinned (OpenSpec.ofChange peepholeCancelsWrong)

/-- 'backsteplaw32.PeepholeVanishes': WHATEVER THE INPUT: true; the input reads as it did. -/
def peepholeVanishesSpec : ChangeSpec := { name := "peepholeVanishes", fn := fun _ => fun
  | [d1, d2, d3] => { results := [.lit (.bool true)], args := [d1, d2, d3] }
  | _ => none }
def peepholeVanishesRow : OpenClaim := { program := "ytfobnkgfbdmakaadoor", sum := "915af2e96e5a119f3c5439bb19b1152792b699f65eea8d3e4c61c4d827dbe48c", func := "backstep/backsteplaw32.PeepholeVanishes", spec := "peepholeVanishes", named := ["backstep/isa.table"], apart := false, laid := [("backstep/isa.table", laid_backstep_isa_table)] }
def PeepholeVanishesSaid : Prop := peepholeVanishesRow.holds Tryd.pinned (OpenSpec.ofChange peepholeVanishesSpec)

/-- ITS FALSE NEIGHBOUR: 'it returns false'. Refute it at one input. -/
def peepholeVanishesWrong : ChangeSpec := { name := "peepholeVanishes", fn := fun _ => fun
  | [d1, d2, d3] => { results := [.lit (.bool false)], args := [d1, d2, d3] }
  | _ => none }
def PeepholeVanishesWrongFalsely : Prop := peepholeVanishesRow.holds Tryd.pinned (OpenSpec.ofChange peepholeVanishesWrong)

/-- 'backsteplaw32.PeepholeOptimize': WHATEVER THE INPUT: true; the input reads as it did. -/
def peepholeOptimizeSpec : ChangeSpec := { name := "peepholeOptimize", fn := fun _ => fun
  | [d] => { results := [.lit (.bool true)], args := [d] }
  | _ => none }
def peepholeOptimizeRow : OpenClaim := { program := "ytfobnkgfbdmakaadoor", sum := "915af2e96e5a119f3c5439bb19b1152792b699f65eea8d3e4c61c4d827dbe48c", func := "backstep/backsteplaw32.PeepholeOptimize", spec := "peepholeOptimize", named := ["backstep/isa.table"], apart := false, laid := [("backstep/isa.table", laid_backstep_isa_table)] }
def PeepholeOptimizeSaid : Prop := peepholeOptimizeRow.holds Tryd.pinned (OpenSpec.ofChange peepholeOptimizeSpec)

/-- ITS FALSE NEIGHBOUR: 'it returns false'. Refute it at one input. -/
def peepholeOptimizeWrong : ChangeSpec := { name := "peepholeOptimize", fn := fun _ => fun
  | [d] => { results := [.lit (.bool false)], args := [d] }
  | _ => none }
def PeepholeOptimizeWrongFalsely : Prop := peepholeOptimizeRow.holds Tryd.pinned (OpenSpec.ofChange peepholeOptimizeWrong)

/-- 'backsteplaw32.PeepholeNormal': WHATEVER THE INPUT: true; the input reads as it did. -/
def peepholeNormalSpec : ChangeSpec := { name := "peepholeNormal", fn := fun _ => fun
  | [d] => { results := [.lit (.bool true)], args := [d] }
  | _ => none }
def peepholeNormalRow : OpenClaim := { program := "ytfobnkgfbdmakaadoor", sum := "915af2e96e5a119f3c5439bb19b1152792b699f65eea8d3e4c61c4d827dbe48c", func := "backstep/backsteplaw32.PeepholeNormal", spec := "peepholeNormal", named := ["backstep/isa.table"], apart := false, laid := [("backstep/isa.table", laid_backstep_isa_table)] }
def PeepholeNormalSaid : Prop := peepholeNormalRow.holds Tryd.pinned (OpenSpec.ofChange peepholeNormalSpec)

/-- ITS FALSE NEIGHBOUR: 'it returns false'. Refute it at one input. -/
def peepholeNormalWrong : ChangeSpec := { name := "peepholeNormal", fn := fun _ => fun
  | [d] => { results := [.lit (.bool false)], args := [d] }
  | _ => none }
def PeepholeNormalWrongFalsely : Prop := peepholeNormalRow.holds Tryd.pinned (OpenSpec.ofChange peepholeNormalWrong)

/-- 'backsteplaw32.PeepholeKeeps': WHATEVER THE INPUT: true; the input reads as it did. -/
def peepholeKeepsSpec : ChangeSpec := { name := "peepholeKeeps", fn := fun _ => fun
  | [d] => { results := [.lit (.bool true)], args := [d] }
  | _ => none }
def peepholeKeepsRow : OpenClaim := { program := "ytfobnkgfbdmakaadoor", sum := "915af2e96e5a119f3c5439bb19b1152792b699f65eea8d3e4c61c4d827dbe48c", func := "backstep/backsteplaw32.PeepholeKeeps", spec := "peepholeKeeps", unfollowed := true, recurses := true, named := ["backstep/isa.table"], apart := false, laid := [("backstep/isa.table", laid_backstep_isa_table)] }
def PeepholeKeepsSaid : Prop := peepholeKeepsRow.holds Tryd.pinned (OpenSpec.ofChange peepholeKeepsSpec)

/-- ITS FALSE NEIGHBOUR: 'it returns false'. Refute it at one input. -/
def peepholeKeepsWrong : ChangeSpec := { name := "peepholeKeeps", fn := fun _ => fun
  | [d] => { results := [.lit (.bool false)], args := [d] }
  | _ => none }
def PeepholeKeepsWrongFalsely : Prop := peepholeKeepsRow.holds Tryd.pinned (OpenSpec.ofChange peepholeKeepsWrong)

/-- 'backsteplaw32.PeepholeInverse': WHATEVER THE INPUT: true; the input reads as it did. -/
def peepholeInverseSpec : ChangeSpec := { name := "peepholeInverse", fn := fun _ => fun
  | [d] => { results := [.lit (.bool true)], args := [d] }
  | _ => none }
def peepholeInverseRow : OpenClaim := { program := "ytfobnkgfbdmakaadoor", sum := "915af2e96e5a119f3c5439bb19b1152792b699f65eea8d3e4c61c4d827dbe48c", func := "backstep/backsteplaw32.PeepholeInverse", spec := "peepholeInverse", named := ["backstep/isa.table"], apart := false, laid := [("backstep/isa.table", laid_backstep_isa_table)] }
def PeepholeInverseSaid : Prop := peepholeInverseRow.holds Tryd.pinned (OpenSpec.ofChange peepholeInverseSpec)

/-- ITS FALSE NEIGHBOUR: 'it returns false'. Refute it at one input. -/
def peepholeInverseWrong : ChangeSpec := { name := "peepholeInverse", fn := fun _ => fun
  | [d] => { results := [.lit (.bool false)], args := [d] }
  | _ => none }
def PeepholeInverseWrongFalsely : Prop := peepholeInverseRow.holds Tryd.pinned (OpenSpec.ofChange peepholeInverseWrong)

/- THE SECOND FORM. 'bulk': how many values and letters a reading holds, each counted each time it is reached (what is shared counts as often as it is met; a slice's spare places count too). A statement '..UptoSaid' is the law's where the arguments, and the package variables that the reading takes, are together of bulk at most 1048576: NARROWER than '..Said'. Prove '..Said' where nothing that the law and all that it calls make is longer than what came in: it says more and counts as full. Else prove '..UptoSaid'. A law counts once. -/
mutual
def uptoBulk {H : Type} : DataW H → Nat
  | .lit (.string bytes) => bytes.length + 1
  | .lit _ => 1
  | .nil => 1
  | .ptr d => uptoBulk d + 1
  | .slice elems spare => uptoBulkAll elems + uptoBulkAll spare + 1
  | .agg parts => uptoBulkAll parts + 1
  | .iface _ d => uptoBulk d + 1
  | .map entries => uptoBulkEntries entries + 1
  | .held _ => 1
def uptoBulkAll {H : Type} : List (DataW H) → Nat
  | [] => 0
  | d :: r => uptoBulk d + uptoBulkAll r
def uptoBulkEntries {H : Type} : List (Lit × DataW H) → Nat
  | [] => 0
  | x :: r => uptoBulkEntry x + uptoBulkEntries r
def uptoBulkEntry {H : Type} : Lit × DataW H → Nat
  | (.string bytes, d) => bytes.length + uptoBulk d + 1
  | (_, d) => uptoBulk d + 1
 end
def uptoSmall : (H : Type) → List (DataW H) → Bool := fun _ ds => decide (uptoBulkAll ds ≤ 1048576)
def OpenSpec.upto (s : _root_.Go.ChangeSpec) : _root_.Go.OpenSpec := { _root_.Go.OpenSpec.ofChange s with cond := some uptoSmall }

/-- 'backsteplaw32.PeepholeCancels', WHERE WHAT IT READS IS OF BULK AT MOST 1048576: true; the input reads as it did. -/
def peepholeCancelsUptoRow : OpenClaim := { program := "ytfobnkgfbdmakaadoor", sum := "915af2e96e5a119f3c5439bb19b1152792b699f65eea8d3e4c61c4d827dbe48c", func := "backstep/backsteplaw32.PeepholeCancels", spec := "peepholeCancels", named := ["backstep/isa.table"], apart := false, laid := [("backstep/isa.table", laid_backstep_isa_table)], narrowed := true }
def PeepholeCancelsUptoSaid : Prop := peepholeCancelsUptoRow.holds Tryd.pinned (OpenSpec.upto peepholeCancelsSpec)

/-- 'backsteplaw32.PeepholeVanishes', WHERE WHAT IT READS IS OF BULK AT MOST 1048576: true; the input reads as it did. -/
def peepholeVanishesUptoRow : OpenClaim := { program := "ytfobnkgfbdmakaadoor", sum := "915af2e96e5a119f3c5439bb19b1152792b699f65eea8d3e4c61c4d827dbe48c", func := "backstep/backsteplaw32.PeepholeVanishes", spec := "peepholeVanishes", named := ["backstep/isa.table"], apart := false, laid := [("backstep/isa.table", laid_backstep_isa_table)], narrowed := true }
def PeepholeVanishesUptoSaid : Prop := peepholeVanishesUptoRow.holds Tryd.pinned (OpenSpec.upto peepholeVanishesSpec)

/-- 'backsteplaw32.PeepholeOptimize', WHERE WHAT IT READS IS OF BULK AT MOST 1048576: true; the input reads as it did. -/
def peepholeOptimizeUptoRow : OpenClaim := { program := "ytfobnkgfbdmakaadoor", sum := "915af2e96e5a119f3c5439bb19b1152792b699f65eea8d3e4c61c4d827dbe48c", func := "backstep/backsteplaw32.PeepholeOptimize", spec := "peepholeOptimize", named := ["backstep/isa.table"], apart := false, laid := [("backstep/isa.table", laid_backstep_isa_table)], narrowed := true }
def PeepholeOptimizeUptoSaid : Prop := peepholeOptimizeUptoRow.holds Tryd.pinned (OpenSpec.upto peepholeOptimizeSpec)

/-- 'backsteplaw32.PeepholeNormal', WHERE WHAT IT READS IS OF BULK AT MOST 1048576: true; the input reads as it did. -/
def peepholeNormalUptoRow : OpenClaim := { program := "ytfobnkgfbdmakaadoor", sum := "915af2e96e5a119f3c5439bb19b1152792b699f65eea8d3e4c61c4d827dbe48c", func := "backstep/backsteplaw32.PeepholeNormal", spec := "peepholeNormal", named := ["backstep/isa.table"], apart := false, laid := [("backstep/isa.table", laid_backstep_isa_table)], narrowed := true }
def PeepholeNormalUptoSaid : Prop := peepholeNormalUptoRow.holds Tryd.pinned (OpenSpec.upto peepholeNormalSpec)

/-- 'backsteplaw32.PeepholeKeeps', WHERE WHAT IT READS IS OF BULK AT MOST 1048576: true; the input reads as it did. -/
def peepholeKeepsUptoRow : OpenClaim := { program := "ytfobnkgfbdmakaadoor", sum := "915af2e96e5a119f3c5439bb19b1152792b699f65eea8d3e4c61c4d827dbe48c", func := "backstep/backsteplaw32.PeepholeKeeps", spec := "peepholeKeeps", unfollowed := true, recurses := true, named := ["backstep/isa.table"], apart := false, laid := [("backstep/isa.table", laid_backstep_isa_table)], narrowed := true }
def PeepholeKeepsUptoSaid : Prop := peepholeKeepsUptoRow.holds Tryd.pinned (OpenSpec.upto peepholeKeepsSpec)

/-- 'backsteplaw32.PeepholeInverse', WHERE WHAT IT READS IS OF BULK AT MOST 1048576: true; the input reads as it did. -/
def peepholeInverseUptoRow : OpenClaim := { program := "ytfobnkgfbdmakaadoor", sum := "915af2e96e5a119f3c5439bb19b1152792b699f65eea8d3e4c61c4d827dbe48c", func := "backstep/backsteplaw32.PeepholeInverse", spec := "peepholeInverse", named := ["backstep/isa.table"], apart := false, laid := [("backstep/isa.table", laid_backstep_isa_table)], narrowed := true }
def PeepholeInverseUptoSaid : Prop := peepholeInverseUptoRow.holds Tryd.pinned (OpenSpec.upto peepholeInverseSpec)

end Rows
end Go.Proofs.YtfobnkgfbdmakaaDoor
