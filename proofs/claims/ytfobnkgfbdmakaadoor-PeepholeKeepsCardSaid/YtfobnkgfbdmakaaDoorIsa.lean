/- The walks of package isa. -/
import Derived.Test.YtfobnkgfbdmakaaDoorProg
import Derived.Test.YtfobnkgfbdmakaaDoorIsaS
import Derived.Test.YtfobnkgfbdmakaaDoorBaseO
set_option linter.unusedVariables false
namespace Go.Proofs.YtfobnkgfbdmakaaDoor
open Go.RowKit Bk

theorem c_register (x : Int) (w : World) :
    Calls Tryd.prog 29 #[.int .i64 x] w fun e w' => e = .returned (.bool (regB x)) ∧ w = w' := by
  go_enter Tryd.func29, Tryd.ntmps29
  go_wp2
  all_goals (go_ret; exact ⟨ret_bool (by simp [regB]; omega), rfl⟩)

theorem c_number (x : Int) (w : World) :
    Calls Tryd.prog 31 #[.int .i64 x] w fun e w' => e = .returned (.bool (numB x)) ∧ w = w' := by
  go_enter Tryd.func31, Tryd.ntmps31
  go_wp2
  all_goals (go_ret; exact ⟨ret_bool (by simp [numB]; omega), rfl⟩)

theorem c_index (x : Int) (w : World) :
    Calls Tryd.prog 32 #[.int .i64 x] w fun e w' => e = .returned (.bool (idxB x)) ∧ w = w' := by
  go_enter Tryd.func32, Tryd.ntmps32
  go_wp2
  all_goals (go_ret; exact ⟨ret_bool (by simp [idxB]; omega), rfl⟩)

theorem c_operator (x : Int) (w : World) :
    Calls Tryd.prog 30 #[.int .i64 x] w fun e w' => e = .returned (.bool (operB x)) ∧ w = w' := by
  go_enter Tryd.func30, Tryd.ntmps30
  go_wp2
  all_goals (go_ret; exact ⟨ret_bool (by simp [operB]; omega), rfl⟩)

theorem c_IsJump (x : Int) (w : World) :
    Calls Tryd.prog 27 #[.int .u8 x] w fun e w' => e = .returned (.bool (jumpB x)) ∧ w = w' := by
  go_enter Tryd.func27, Tryd.ntmps27
  go_wp2
  all_goals (go_ret; exact ⟨ret_bool (by simp_all [jumpB]), rfl⟩)

theorem c_IsLanding (x : Int) (w : World) :
    Calls Tryd.prog 28 #[.int .u8 x] w fun e w' => e = .returned (.bool (landB x)) ∧ w = w' := by
  go_enter Tryd.func28, Tryd.ntmps28
  go_wp2
  all_goals (go_ret; exact ⟨ret_bool (by simp_all [landB]), rfl⟩)

theorem c_inverse (x : Int) (h0 : 0 ≤ x) (h1 : x ≤ 255) (w : World) :
    Calls Tryd.prog 26 #[.int .u8 x] w fun e w' => e = .returned (.int .u8 (inv x)) ∧ w = w' := by
  go_enter Tryd.func26, Tryd.ntmps26
  go_wp2
  all_goals (go_ret; exact ⟨ret_int (by simp_all [inv]), rfl⟩)

theorem c_Inverse (op a b c d : Int) (h0 : 0 ≤ op) (h1 : op ≤ 255) (w : World) :
    Calls Tryd.prog 10 #[.agg #[.int .u8 op, .int .i64 a, .int .i64 b, .int .i64 c, .int .i64 d]] w fun e w' =>
      e = .returned (.agg #[.int .u8 (inv op), .int .i64 a, .int .i64 b, .int .i64 c, .int .i64 d]) ∧ Below w.heap.size w w' := by
  go_enter Tryd.func10, Tryd.ntmps10
  go_wp2_with (go_at_call 26; refine (c_inverse _ (by omega) (by omega) _).mono ?_; rintro e w' ⟨rfl, rfl⟩)
  exact bodyPost_ret (v := .agg #[.int .u8 (inv op), .int .i64 a, .int .i64 b, .int .i64 c, .int .i64 d]) (by simp [results, Tryd.results10, go_sem]) rfl
    ⟨rfl, ((Below.refl _ _).alloc (Nat.le_refl _) _).alloc (by simp) _⟩

theorem c_Target (op a b c d : Int) (w : World) :
    Calls Tryd.prog 15 #[.agg #[.int .u8 op, .int .i64 a, .int .i64 b, .int .i64 c, .int .i64 d]] w fun e w' =>
      e = .returned (.tuple #[.int .i64 (targetP op a b).1, .bool (targetP op a b).2]) ∧ Below w.heap.size w w' := by
  go_enter Tryd.func15, Tryd.ntmps15
  go_wp2
  all_goals (go_ret2; refine ⟨?_, (Below.refl _ _).alloc (Nat.le_refl _) _⟩; simp_all [targetP])

theorem c_Retarget (op a b c d t : Int) (w : World) :
    Calls Tryd.prog 16 #[.agg #[.int .u8 op, .int .i64 a, .int .i64 b, .int .i64 c, .int .i64 d], .int .i64 t] w fun e w' =>
      e = .returned (.agg #[.int .u8 op, .int .i64 (retA op a t), .int .i64 (retB op b t), .int .i64 c, .int .i64 d]) ∧ Below w.heap.size w w' := by
  go_enter Tryd.func16, Tryd.ntmps16
  go_wp2
  all_goals
    refine bodyPost_ret (v := .agg #[.int .u8 op, .int .i64 (retA op a t), .int .i64 (retB op b t), .int .i64 c, .int .i64 d]) ?_ rfl ⟨rfl, ?_⟩
    · simp [results, Tryd.results16, go_sem]
      simp_all [retA, retB]
    · exact ((Below.refl _ _).alloc (Nat.le_refl _) _).alloc (by simp) _

theorem c_IsJump' (x : Int) {v : Bool} (h : jumpB x = v) (w : World) :
    Calls Tryd.prog 27 #[.int .u8 x] w fun e w' => e = .returned (.bool v) ∧ w = w' := by
  rw [← h]; exact c_IsJump x w
theorem c_IsLanding' (x : Int) {v : Bool} (h : landB x = v) (w : World) :
    Calls Tryd.prog 28 #[.int .u8 x] w fun e w' => e = .returned (.bool v) ∧ w = w' := by
  rw [← h]; exact c_IsLanding x w
theorem quiet_left {P : Program} {f : FuncId} {args : Array Value} {w : World} {n : Nat} {v : Value}
    (h : Calls P f args (w.drewN n) fun e w' => e = .returned v ∧ w.drewN n = w') : Calls P f args (w.drewN n) fun e w'' => e = .returned v ∧ ∃ m, w'' = w.drewN m :=
  h.mono fun _ _ ⟨he, hm⟩ => ⟨he, n, hm.symm⟩
end Go.Proofs.YtfobnkgfbdmakaaDoor
