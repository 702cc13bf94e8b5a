/- The walk of isa.Valid: the parts joined (written by gen_valid.py). -/
import Derived.Test.YtfobnkgfbdmakaaDoorValidA
import Derived.Test.YtfobnkgfbdmakaaDoorValidB
import Derived.Test.YtfobnkgfbdmakaaDoorValidC
import Derived.Test.YtfobnkgfbdmakaaDoorValidD
import Derived.Test.YtfobnkgfbdmakaaDoorValidE
import Derived.Test.YtfobnkgfbdmakaaDoorValidF
import Derived.Test.YtfobnkgfbdmakaaDoorValidG
import Derived.Handy
set_option linter.unusedSimpArgs false
namespace Go.Proofs.YtfobnkgfbdmakaaDoor
open Go.RowKit Bk


set_option maxRecDepth 100000 in
theorem c_Valid (op a b c d : Int) (h0 : 0 ≤ op) (w : World) (hT : TableAt w) :
    Calls Tryd.prog 12 #[.agg #[.int .u8 op, .int .i64 a, .int .i64 b, .int .i64 c, .int .i64 d]] w fun e w' =>
      e = .returned (.bool (validB op a b c d)) ∧ Below w.heap.size w w' := by
  by_cases hop : op < 35
  · rcases op_cases op h0 hop with rfl | rfl | rfl | rfl | rfl | rfl | rfl | rfl | rfl | rfl | rfl | rfl | rfl | rfl | rfl | rfl | rfl | rfl | rfl | rfl | rfl | rfl | rfl | rfl | rfl | rfl | rfl | rfl | rfl | rfl | rfl | rfl | rfl | rfl | rfl
    · exact Valid.op0 a b c d w hT
    · exact Valid.op1 a b c d w hT
    · exact Valid.op2 a b c d w hT
    · exact Valid.op3 a b c d w hT
    · exact Valid.op4 a b c d w hT
    · exact Valid.op5 a b c d w hT
    · exact Valid.op6 a b c d w hT
    · exact Valid.op7 a b c d w hT
    · exact Valid.op8 a b c d w hT
    · exact Valid.op9 a b c d w hT
    · exact Valid.op10 a b c d w hT
    · exact Valid.op11 a b c d w hT
    · exact Valid.op12 a b c d w hT
    · exact Valid.op13 a b c d w hT
    · exact Valid.op14 a b c d w hT
    · exact Valid.op15 a b c d w hT
    · exact Valid.op16 a b c d w hT
    · exact Valid.op17 a b c d w hT
    · exact Valid.op18 a b c d w hT
    · exact Valid.op19 a b c d w hT
    · exact Valid.op20 a b c d w hT
    · exact Valid.op21 a b c d w hT
    · exact Valid.op22 a b c d w hT
    · exact Valid.op23 a b c d w hT
    · exact Valid.op24 a b c d w hT
    · exact Valid.op25 a b c d w hT
    · exact Valid.op26 a b c d w hT
    · exact Valid.op27 a b c d w hT
    · exact Valid.op28 a b c d w hT
    · exact Valid.op29 a b c d w hT
    · exact Valid.op30 a b c d w hT
    · exact Valid.op31 a b c d w hT
    · exact Valid.op32 a b c d w hT
    · exact Valid.op33 a b c d w hT
    · exact Valid.op34 a b c d w hT
  · have h35 : 35 ≤ op := by omega
    clear hT hop
    go_enter Tryd.func12, Tryd.ntmps12
    go_wp2
    go_ret
    exact ⟨ret_bool (by unfold validB; simp; omega), (Below.refl _ _).alloc (Nat.le_refl _) _⟩

theorem c_Target' (op a b c d : Int) {t : Int} {ok : Bool} (h : targetP op a b = (t, ok)) (w : World) :
    Calls Tryd.prog 15 #[.agg #[.int .u8 op, .int .i64 a, .int .i64 b, .int .i64 c, .int .i64 d]] w fun e w' =>
      e = .returned (.tuple #[.int .i64 t, .bool ok]) ∧ Below w.heap.size w w' := by
  have := c_Target op a b c d w
  rw [h] at this; exact this
theorem c_Valid' (op a b c d : Int) {v : Bool} (h : validB op a b c d = v) (h0 : 0 ≤ op) (w : World) (hT : TableAt w) :
    Calls Tryd.prog 12 #[.agg #[.int .u8 op, .int .i64 a, .int .i64 b, .int .i64 c, .int .i64 d]] w fun e w' =>
      e = .returned (.bool v) ∧ Below w.heap.size w w' := by
  have := c_Valid op a b c d h0 w hT
  rw [h] at this; exact this
end Go.Proofs.YtfobnkgfbdmakaaDoor
