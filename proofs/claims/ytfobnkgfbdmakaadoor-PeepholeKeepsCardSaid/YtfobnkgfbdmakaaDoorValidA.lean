/- The walk of isa.Valid: one theorem an opcode, a part (written by gen_valid.py). -/
import Derived.Test.YtfobnkgfbdmakaaDoorTable
import Derived.Handy
set_option linter.unusedSimpArgs false
namespace Go.Proofs.YtfobnkgfbdmakaaDoor
open Go.RowKit Bk

namespace Valid

set_option maxRecDepth 100000 in
set_option maxHeartbeats 1000000 in
theorem op0 (a b c d : Int) (w : World) (hT : TableAt w) :
    Calls Tryd.prog 12 #[.agg #[.int .u8 0, .int .i64 a, .int .i64 b, .int .i64 c, .int .i64 d]] w fun e w' =>
      e = .returned (.bool (validB 0 a b c d)) ∧ Below w.heap.size w w' := by
  have ht : w.cell? ⟨0, 1, none⟩ = some (.int .i64 0) := hT 0 (by decide)
  have hlt := hT.lt
  have hz : zerosB 0 a b c d = (decide (a = 0) && decide (b = 0) && decide (c = 0) && decide (d = 0)) := by simp [zerosB, arity, Bool.and_assoc]
  clear hT
  have HZ := Lib.hid hz; clear hz
  have i0 : ∀ w, (Instr.index 50 (.agg #[.int .i64 a, .int .i64 b, .int .i64 c, .int .i64 d]) (.int .i64 0)).run Tryd.prog w = .ok (.int .i64 a) w := fun _ => by kernel_rfl
  have i1 : ∀ w, (Instr.index 50 (.agg #[.int .i64 a, .int .i64 b, .int .i64 c, .int .i64 d]) (.int .i64 1)).run Tryd.prog w = .ok (.int .i64 b) w := fun _ => by kernel_rfl
  have i2 : ∀ w, (Instr.index 50 (.agg #[.int .i64 a, .int .i64 b, .int .i64 c, .int .i64 d]) (.int .i64 2)).run Tryd.prog w = .ok (.int .i64 c) w := fun _ => by kernel_rfl
  have i3 : ∀ w, (Instr.index 50 (.agg #[.int .i64 a, .int .i64 b, .int .i64 c, .int .i64 d]) (.int .i64 3)).run Tryd.prog w = .ok (.int .i64 d) w := fun _ => by kernel_rfl
  go_enter Tryd.func12, Tryd.ntmps12
  go_wp2
  go_rounds 5

  all_goals (go_ret; refine ⟨ret_bool ?_, (Below.refl _ _).alloc (Nat.le_refl _) _⟩; unfold validB; rw [HZ.out]; go_tidy; clear HZ; refine Bool.eq_iff_iff.2 ?_; simp_all [shapeB, regB, numB, idxB, operB] <;> omega)

set_option maxRecDepth 100000 in
set_option maxHeartbeats 1000000 in
theorem op7 (a b c d : Int) (w : World) (hT : TableAt w) :
    Calls Tryd.prog 12 #[.agg #[.int .u8 7, .int .i64 a, .int .i64 b, .int .i64 c, .int .i64 d]] w fun e w' =>
      e = .returned (.bool (validB 7 a b c d)) ∧ Below w.heap.size w w' := by
  have ht : w.cell? ⟨0, 15, none⟩ = some (.int .i64 2) := hT 7 (by decide)
  have hlt := hT.lt
  have hz : zerosB 7 a b c d = (decide (c = 0) && decide (d = 0)) := by simp [zerosB, arity]
  clear hT
  have HZ := Lib.hid hz; clear hz
  have i0 : ∀ w, (Instr.index 50 (.agg #[.int .i64 a, .int .i64 b, .int .i64 c, .int .i64 d]) (.int .i64 0)).run Tryd.prog w = .ok (.int .i64 a) w := fun _ => by kernel_rfl
  have i1 : ∀ w, (Instr.index 50 (.agg #[.int .i64 a, .int .i64 b, .int .i64 c, .int .i64 d]) (.int .i64 1)).run Tryd.prog w = .ok (.int .i64 b) w := fun _ => by kernel_rfl
  have i2 : ∀ w, (Instr.index 50 (.agg #[.int .i64 a, .int .i64 b, .int .i64 c, .int .i64 d]) (.int .i64 2)).run Tryd.prog w = .ok (.int .i64 c) w := fun _ => by kernel_rfl
  have i3 : ∀ w, (Instr.index 50 (.agg #[.int .i64 a, .int .i64 b, .int .i64 c, .int .i64 d]) (.int .i64 3)).run Tryd.prog w = .ok (.int .i64 d) w := fun _ => by kernel_rfl
  go_enter Tryd.func12, Tryd.ntmps12
  go_wp2
  go_rounds 5

  all_goals (go_ret; refine ⟨ret_bool ?_, (Below.refl _ _).alloc (Nat.le_refl _) _⟩; unfold validB; rw [HZ.out]; go_tidy; clear HZ; refine Bool.eq_iff_iff.2 ?_; simp_all [shapeB, regB, numB, idxB, operB] <;> omega)

set_option maxRecDepth 100000 in
set_option maxHeartbeats 1000000 in
theorem op14 (a b c d : Int) (w : World) (hT : TableAt w) :
    Calls Tryd.prog 12 #[.agg #[.int .u8 14, .int .i64 a, .int .i64 b, .int .i64 c, .int .i64 d]] w fun e w' =>
      e = .returned (.bool (validB 14 a b c d)) ∧ Below w.heap.size w w' := by
  have ht : w.cell? ⟨0, 29, none⟩ = some (.int .i64 2) := hT 14 (by decide)
  have hlt := hT.lt
  have hz : zerosB 14 a b c d = (decide (c = 0) && decide (d = 0)) := by simp [zerosB, arity]
  clear hT
  have HZ := Lib.hid hz; clear hz
  have i0 : ∀ w, (Instr.index 50 (.agg #[.int .i64 a, .int .i64 b, .int .i64 c, .int .i64 d]) (.int .i64 0)).run Tryd.prog w = .ok (.int .i64 a) w := fun _ => by kernel_rfl
  have i1 : ∀ w, (Instr.index 50 (.agg #[.int .i64 a, .int .i64 b, .int .i64 c, .int .i64 d]) (.int .i64 1)).run Tryd.prog w = .ok (.int .i64 b) w := fun _ => by kernel_rfl
  have i2 : ∀ w, (Instr.index 50 (.agg #[.int .i64 a, .int .i64 b, .int .i64 c, .int .i64 d]) (.int .i64 2)).run Tryd.prog w = .ok (.int .i64 c) w := fun _ => by kernel_rfl
  have i3 : ∀ w, (Instr.index 50 (.agg #[.int .i64 a, .int .i64 b, .int .i64 c, .int .i64 d]) (.int .i64 3)).run Tryd.prog w = .ok (.int .i64 d) w := fun _ => by kernel_rfl
  go_enter Tryd.func12, Tryd.ntmps12
  go_wp2
  go_rounds 5

  all_goals (go_ret; refine ⟨ret_bool ?_, (Below.refl _ _).alloc (Nat.le_refl _) _⟩; unfold validB; rw [HZ.out]; go_tidy; clear HZ; refine Bool.eq_iff_iff.2 ?_; simp_all [shapeB, regB, numB, idxB, operB] <;> omega)

set_option maxRecDepth 100000 in
set_option maxHeartbeats 1000000 in
theorem op21 (a b c d : Int) (w : World) (hT : TableAt w) :
    Calls Tryd.prog 12 #[.agg #[.int .u8 21, .int .i64 a, .int .i64 b, .int .i64 c, .int .i64 d]] w fun e w' =>
      e = .returned (.bool (validB 21 a b c d)) ∧ Below w.heap.size w w' := by
  have ht : w.cell? ⟨0, 43, none⟩ = some (.int .i64 2) := hT 21 (by decide)
  have hlt := hT.lt
  have hz : zerosB 21 a b c d = (decide (c = 0) && decide (d = 0)) := by simp [zerosB, arity]
  clear hT
  have HZ := Lib.hid hz; clear hz
  have i0 : ∀ w, (Instr.index 50 (.agg #[.int .i64 a, .int .i64 b, .int .i64 c, .int .i64 d]) (.int .i64 0)).run Tryd.prog w = .ok (.int .i64 a) w := fun _ => by kernel_rfl
  have i1 : ∀ w, (Instr.index 50 (.agg #[.int .i64 a, .int .i64 b, .int .i64 c, .int .i64 d]) (.int .i64 1)).run Tryd.prog w = .ok (.int .i64 b) w := fun _ => by kernel_rfl
  have i2 : ∀ w, (Instr.index 50 (.agg #[.int .i64 a, .int .i64 b, .int .i64 c, .int .i64 d]) (.int .i64 2)).run Tryd.prog w = .ok (.int .i64 c) w := fun _ => by kernel_rfl
  have i3 : ∀ w, (Instr.index 50 (.agg #[.int .i64 a, .int .i64 b, .int .i64 c, .int .i64 d]) (.int .i64 3)).run Tryd.prog w = .ok (.int .i64 d) w := fun _ => by kernel_rfl
  go_enter Tryd.func12, Tryd.ntmps12
  go_wp2
  go_rounds 5

  all_goals (go_ret; refine ⟨ret_bool ?_, (Below.refl _ _).alloc (Nat.le_refl _) _⟩; unfold validB; rw [HZ.out]; go_tidy; clear HZ; refine Bool.eq_iff_iff.2 ?_; simp_all [shapeB, regB, numB, idxB, operB] <;> omega)

set_option maxRecDepth 100000 in
set_option maxHeartbeats 1000000 in
theorem op28 (a b c d : Int) (w : World) (hT : TableAt w) :
    Calls Tryd.prog 12 #[.agg #[.int .u8 28, .int .i64 a, .int .i64 b, .int .i64 c, .int .i64 d]] w fun e w' =>
      e = .returned (.bool (validB 28 a b c d)) ∧ Below w.heap.size w w' := by
  have ht : w.cell? ⟨0, 57, none⟩ = some (.int .i64 2) := hT 28 (by decide)
  have hlt := hT.lt
  have hz : zerosB 28 a b c d = (decide (c = 0) && decide (d = 0)) := by simp [zerosB, arity]
  clear hT
  have HZ := Lib.hid hz; clear hz
  have i0 : ∀ w, (Instr.index 50 (.agg #[.int .i64 a, .int .i64 b, .int .i64 c, .int .i64 d]) (.int .i64 0)).run Tryd.prog w = .ok (.int .i64 a) w := fun _ => by kernel_rfl
  have i1 : ∀ w, (Instr.index 50 (.agg #[.int .i64 a, .int .i64 b, .int .i64 c, .int .i64 d]) (.int .i64 1)).run Tryd.prog w = .ok (.int .i64 b) w := fun _ => by kernel_rfl
  have i2 : ∀ w, (Instr.index 50 (.agg #[.int .i64 a, .int .i64 b, .int .i64 c, .int .i64 d]) (.int .i64 2)).run Tryd.prog w = .ok (.int .i64 c) w := fun _ => by kernel_rfl
  have i3 : ∀ w, (Instr.index 50 (.agg #[.int .i64 a, .int .i64 b, .int .i64 c, .int .i64 d]) (.int .i64 3)).run Tryd.prog w = .ok (.int .i64 d) w := fun _ => by kernel_rfl
  go_enter Tryd.func12, Tryd.ntmps12
  go_wp2
  go_rounds 5

  all_goals (go_ret; refine ⟨ret_bool ?_, (Below.refl _ _).alloc (Nat.le_refl _) _⟩; unfold validB; rw [HZ.out]; go_tidy; clear HZ; refine Bool.eq_iff_iff.2 ?_; simp_all [shapeB, regB, numB, idxB, operB] <;> omega)

end Valid
end Go.Proofs.YtfobnkgfbdmakaaDoor
