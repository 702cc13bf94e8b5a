/- The walk of isa.Valid: one theorem an opcode, a part (written by gen_valid.py). -/
import Derived.Test.YtfobnkgfbdmakaaDoorTable
import Derived.Handy
set_option linter.unusedSimpArgs false
namespace Go.Proofs.YtfobnkgfbdmakaaDoor
open Go.RowKit Bk

namespace Valid

set_option maxRecDepth 100000 in
set_option maxHeartbeats 1000000 in
theorem op2 (a b c d : Int) (w : World) (hT : TableAt w) :
    Calls Tryd.prog 12 #[.agg #[.int .u8 2, .int .i64 a, .int .i64 b, .int .i64 c, .int .i64 d]] w fun e w' =>
      e = .returned (.bool (validB 2 a b c d)) ∧ Below w.heap.size w w' := by
  have ht : w.cell? ⟨0, 5, none⟩ = some (.int .i64 2) := hT 2 (by decide)
  have hlt := hT.lt
  have hz : zerosB 2 a b c d = (decide (c = 0) && decide (d = 0)) := by simp [zerosB, arity]
  clear hT
  have HZ := Lib.hid hz; clear hz
  have i0 : ∀ w, (Instr.index 50 (.agg #[.int .i64 a, .int .i64 b, .int .i64 c, .int .i64 d]) (.int .i64 0)).run Tryd.prog w = .ok (.int .i64 a) w := fun _ => by kernel_rfl
  have i1 : ∀ w, (Instr.index 50 (.agg #[.int .i64 a, .int .i64 b, .int .i64 c, .int .i64 d]) (.int .i64 1)).run Tryd.prog w = .ok (.int .i64 b) w := fun _ => by kernel_rfl
  have i2 : ∀ w, (Instr.index 50 (.agg #[.int .i64 a, .int .i64 b, .int .i64 c, .int .i64 d]) (.int .i64 2)).run Tryd.prog w = .ok (.int .i64 c) w := fun _ => by kernel_rfl
  have i3 : ∀ w, (Instr.index 50 (.agg #[.int .i64 a, .int .i64 b, .int .i64 c, .int .i64 d]) (.int .i64 3)).run Tryd.prog w = .ok (.int .i64 d) w := fun _ => by kernel_rfl
  go_enter Tryd.func12, Tryd.ntmps12
  go_wp2
  go_rounds 5

  all_goals (go_ret; refine ⟨ret_bool ?_, (Below.refl _ _).alloc (Nat.le_refl _) _⟩; unfold validB; rw [HZ.out]; go_tidy; clear HZ; refine Bool.eq_iff_iff.2 ?_; simp_all [shapeB, regB, numB, idxB, operB] <;> omega)

set_option maxRecDepth 100000 in
set_option maxHeartbeats 1000000 in
theorem op9 (a b c d : Int) (w : World) (hT : TableAt w) :
    Calls Tryd.prog 12 #[.agg #[.int .u8 9, .int .i64 a, .int .i64 b, .int .i64 c, .int .i64 d]] w fun e w' =>
      e = .returned (.bool (validB 9 a b c d)) ∧ Below w.heap.size w w' := by
  have ht : w.cell? ⟨0, 19, none⟩ = some (.int .i64 4) := hT 9 (by decide)
  have hlt := hT.lt
  have hz : zerosB 9 a b c d = (true) := by simp [zerosB, arity]
  clear hT
  have HZ := Lib.hid hz; clear hz
  have i0 : ∀ w, (Instr.index 50 (.agg #[.int .i64 a, .int .i64 b, .int .i64 c, .int .i64 d]) (.int .i64 0)).run Tryd.prog w = .ok (.int .i64 a) w := fun _ => by kernel_rfl
  have i1 : ∀ w, (Instr.index 50 (.agg #[.int .i64 a, .int .i64 b, .int .i64 c, .int .i64 d]) (.int .i64 1)).run Tryd.prog w = .ok (.int .i64 b) w := fun _ => by kernel_rfl
  have i2 : ∀ w, (Instr.index 50 (.agg #[.int .i64 a, .int .i64 b, .int .i64 c, .int .i64 d]) (.int .i64 2)).run Tryd.prog w = .ok (.int .i64 c) w := fun _ => by kernel_rfl
  have i3 : ∀ w, (Instr.index 50 (.agg #[.int .i64 a, .int .i64 b, .int .i64 c, .int .i64 d]) (.int .i64 3)).run Tryd.prog w = .ok (.int .i64 d) w := fun _ => by kernel_rfl
  go_enter Tryd.func12, Tryd.ntmps12
  go_wp2
  go_rounds 5

  all_goals (go_ret; refine ⟨ret_bool ?_, (Below.refl _ _).alloc (Nat.le_refl _) _⟩; unfold validB; rw [HZ.out]; go_tidy; clear HZ; refine Bool.eq_iff_iff.2 ?_; simp_all [shapeB, regB, numB, idxB, operB] <;> omega)

set_option maxRecDepth 100000 in
set_option maxHeartbeats 1000000 in
theorem op16 (a b c d : Int) (w : World) (hT : TableAt w) :
    Calls Tryd.prog 12 #[.agg #[.int .u8 16, .int .i64 a, .int .i64 b, .int .i64 c, .int .i64 d]] w fun e w' =>
      e = .returned (.bool (validB 16 a b c d)) ∧ Below w.heap.size w w' := by
  have ht : w.cell? ⟨0, 33, none⟩ = some (.int .i64 2) := hT 16 (by decide)
  have hlt := hT.lt
  have hz : zerosB 16 a b c d = (decide (c = 0) && decide (d = 0)) := by simp [zerosB, arity]
  clear hT
  have HZ := Lib.hid hz; clear hz
  have i0 : ∀ w, (Instr.index 50 (.agg #[.int .i64 a, .int .i64 b, .int .i64 c, .int .i64 d]) (.int .i64 0)).run Tryd.prog w = .ok (.int .i64 a) w := fun _ => by kernel_rfl
  have i1 : ∀ w, (Instr.index 50 (.agg #[.int .i64 a, .int .i64 b, .int .i64 c, .int .i64 d]) (.int .i64 1)).run Tryd.prog w = .ok (.int .i64 b) w := fun _ => by kernel_rfl
  have i2 : ∀ w, (Instr.index 50 (.agg #[.int .i64 a, .int .i64 b, .int .i64 c, .int .i64 d]) (.int .i64 2)).run Tryd.prog w = .ok (.int .i64 c) w := fun _ => by kernel_rfl
  have i3 : ∀ w, (Instr.index 50 (.agg #[.int .i64 a, .int .i64 b, .int .i64 c, .int .i64 d]) (.int .i64 3)).run Tryd.prog w = .ok (.int .i64 d) w := fun _ => by kernel_rfl
  go_enter Tryd.func12, Tryd.ntmps12
  go_wp2
  go_rounds 5

  all_goals (go_ret; refine ⟨ret_bool ?_, (Below.refl _ _).alloc (Nat.le_refl _) _⟩; unfold validB; rw [HZ.out]; go_tidy; clear HZ; refine Bool.eq_iff_iff.2 ?_; simp_all [shapeB, regB, numB, idxB, operB] <;> omega)

set_option maxRecDepth 100000 in
set_option maxHeartbeats 1000000 in
theorem op23 (a b c d : Int) (w : World) (hT : TableAt w) :
    Calls Tryd.prog 12 #[.agg #[.int .u8 23, .int .i64 a, .int .i64 b, .int .i64 c, .int .i64 d]] w fun e w' =>
      e = .returned (.bool (validB 23 a b c d)) ∧ Below w.heap.size w w' := by
  have ht : w.cell? ⟨0, 47, none⟩ = some (.int .i64 2) := hT 23 (by decide)
  have hlt := hT.lt
  have hz : zerosB 23 a b c d = (decide (c = 0) && decide (d = 0)) := by simp [zerosB, arity]
  clear hT
  have HZ := Lib.hid hz; clear hz
  have i0 : ∀ w, (Instr.index 50 (.agg #[.int .i64 a, .int .i64 b, .int .i64 c, .int .i64 d]) (.int .i64 0)).run Tryd.prog w = .ok (.int .i64 a) w := fun _ => by kernel_rfl
  have i1 : ∀ w, (Instr.index 50 (.agg #[.int .i64 a, .int .i64 b, .int .i64 c, .int .i64 d]) (.int .i64 1)).run Tryd.prog w = .ok (.int .i64 b) w := fun _ => by kernel_rfl
  have i2 : ∀ w, (Instr.index 50 (.agg #[.int .i64 a, .int .i64 b, .int .i64 c, .int .i64 d]) (.int .i64 2)).run Tryd.prog w = .ok (.int .i64 c) w := fun _ => by kernel_rfl
  have i3 : ∀ w, (Instr.index 50 (.agg #[.int .i64 a, .int .i64 b, .int .i64 c, .int .i64 d]) (.int .i64 3)).run Tryd.prog w = .ok (.int .i64 d) w := fun _ => by kernel_rfl
  go_enter Tryd.func12, Tryd.ntmps12
  go_wp2
  go_rounds 5

  all_goals (go_ret; refine ⟨ret_bool ?_, (Below.refl _ _).alloc (Nat.le_refl _) _⟩; unfold validB; rw [HZ.out]; go_tidy; clear HZ; refine Bool.eq_iff_iff.2 ?_; simp_all [shapeB, regB, numB, idxB, operB] <;> omega)

set_option maxRecDepth 100000 in
set_option maxHeartbeats 1000000 in
theorem op30 (a b c d : Int) (w : World) (hT : TableAt w) :
    Calls Tryd.prog 12 #[.agg #[.int .u8 30, .int .i64 a, .int .i64 b, .int .i64 c, .int .i64 d]] w fun e w' =>
      e = .returned (.bool (validB 30 a b c d)) ∧ Below w.heap.size w w' := by
  have ht : w.cell? ⟨0, 61, none⟩ = some (.int .i64 1) := hT 30 (by decide)
  have hlt := hT.lt
  have hz : zerosB 30 a b c d = (decide (b = 0) && decide (c = 0) && decide (d = 0)) := by simp [zerosB, arity, Bool.and_assoc]
  clear hT
  have HZ := Lib.hid hz; clear hz
  have i0 : ∀ w, (Instr.index 50 (.agg #[.int .i64 a, .int .i64 b, .int .i64 c, .int .i64 d]) (.int .i64 0)).run Tryd.prog w = .ok (.int .i64 a) w := fun _ => by kernel_rfl
  have i1 : ∀ w, (Instr.index 50 (.agg #[.int .i64 a, .int .i64 b, .int .i64 c, .int .i64 d]) (.int .i64 1)).run Tryd.prog w = .ok (.int .i64 b) w := fun _ => by kernel_rfl
  have i2 : ∀ w, (Instr.index 50 (.agg #[.int .i64 a, .int .i64 b, .int .i64 c, .int .i64 d]) (.int .i64 2)).run Tryd.prog w = .ok (.int .i64 c) w := fun _ => by kernel_rfl
  have i3 : ∀ w, (Instr.index 50 (.agg #[.int .i64 a, .int .i64 b, .int .i64 c, .int .i64 d]) (.int .i64 3)).run Tryd.prog w = .ok (.int .i64 d) w := fun _ => by kernel_rfl
  go_enter Tryd.func12, Tryd.ntmps12
  go_wp2
  go_rounds 5

  all_goals (go_ret; refine ⟨ret_bool ?_, (Below.refl _ _).alloc (Nat.le_refl _) _⟩; unfold validB; rw [HZ.out]; go_tidy; clear HZ; refine Bool.eq_iff_iff.2 ?_; simp_all [shapeB, regB, numB, idxB, operB] <;> omega)

end Valid
end Go.Proofs.YtfobnkgfbdmakaaDoor
