/- The walk of isa.Valid: one theorem an opcode, a part (written by gen_valid.py). -/
import Derived.Test.YtfobnkgfbdmakaaDoorTable
import Derived.Handy
set_option linter.unusedSimpArgs false
namespace Go.Proofs.YtfobnkgfbdmakaaDoor
open Go.RowKit Bk

namespace Valid

set_option maxRecDepth 100000 in
set_option maxHeartbeats 1000000 in
theorem op6 (a b c d : Int) (w : World) (hT : TableAt w) :
    Calls Tryd.prog 12 #[.agg #[.int .u8 6, .int .i64 a, .int .i64 b, .int .i64 c, .int .i64 d]] w fun e w' =>
      e = .returned (.bool (validB 6 a b c d)) ∧ Below w.heap.size w w' := by
  have ht : w.cell? ⟨0, 13, none⟩ = some (.int .i64 2) := hT 6 (by decide)
  have hlt := hT.lt
  have hz : zerosB 6 a b c d = (decide (c = 0) && decide (d = 0)) := by simp [zerosB, arity]
  clear hT
  have HZ := Lib.hid hz; clear hz
  have i0 : ∀ w, (Instr.index 50 (.agg #[.int .i64 a, .int .i64 b, .int .i64 c, .int .i64 d]) (.int .i64 0)).run Tryd.prog w = .ok (.int .i64 a) w := fun _ => by kernel_rfl
  have i1 : ∀ w, (Instr.index 50 (.agg #[.int .i64 a, .int .i64 b, .int .i64 c, .int .i64 d]) (.int .i64 1)).run Tryd.prog w = .ok (.int .i64 b) w := fun _ => by kernel_rfl
  have i2 : ∀ w, (Instr.index 50 (.agg #[.int .i64 a, .int .i64 b, .int .i64 c, .int .i64 d]) (.int .i64 2)).run Tryd.prog w = .ok (.int .i64 c) w := fun _ => by kernel_rfl
  have i3 : ∀ w, (Instr.index 50 (.agg #[.int .i64 a, .int .i64 b, .int .i64 c, .int .i64 d]) (.int .i64 3)).run Tryd.prog w = .ok (.int .i64 d) w := fun _ => by kernel_rfl
  go_enter Tryd.func12, Tryd.ntmps12
  go_wp2
  go_rounds 5

  all_goals (go_ret; refine ⟨ret_bool ?_, (Below.refl _ _).alloc (Nat.le_refl _) _⟩; unfold validB; rw [HZ.out]; go_tidy; clear HZ; refine Bool.eq_iff_iff.2 ?_; simp_all [shapeB, regB, numB, idxB, operB] <;> omega)

set_option maxRecDepth 100000 in
set_option maxHeartbeats 1000000 in
theorem op13 (a b c d : Int) (w : World) (hT : TableAt w) :
    Calls Tryd.prog 12 #[.agg #[.int .u8 13, .int .i64 a, .int .i64 b, .int .i64 c, .int .i64 d]] w fun e w' =>
      e = .returned (.bool (validB 13 a b c d)) ∧ Below w.heap.size w w' := by
  have ht : w.cell? ⟨0, 27, none⟩ = some (.int .i64 2) := hT 13 (by decide)
  have hlt := hT.lt
  have hz : zerosB 13 a b c d = (decide (c = 0) && decide (d = 0)) := by simp [zerosB, arity]
  clear hT
  have HZ := Lib.hid hz; clear hz
  have i0 : ∀ w, (Instr.index 50 (.agg #[.int .i64 a, .int .i64 b, .int .i64 c, .int .i64 d]) (.int .i64 0)).run Tryd.prog w = .ok (.int .i64 a) w := fun _ => by kernel_rfl
  have i1 : ∀ w, (Instr.index 50 (.agg #[.int .i64 a, .int .i64 b, .int .i64 c, .int .i64 d]) (.int .i64 1)).run Tryd.prog w = .ok (.int .i64 b) w := fun _ => by kernel_rfl
  have i2 : ∀ w, (Instr.index 50 (.agg #[.int .i64 a, .int .i64 b, .int .i64 c, .int .i64 d]) (.int .i64 2)).run Tryd.prog w = .ok (.int .i64 c) w := fun _ => by kernel_rfl
  have i3 : ∀ w, (Instr.index 50 (.agg #[.int .i64 a, .int .i64 b, .int .i64 c, .int .i64 d]) (.int .i64 3)).run Tryd.prog w = .ok (.int .i64 d) w := fun _ => by kernel_rfl
  go_enter Tryd.func12, Tryd.ntmps12
  go_wp2
  go_rounds 5

  all_goals (go_ret; refine ⟨ret_bool ?_, (Below.refl _ _).alloc (Nat.le_refl _) _⟩; unfold validB; rw [HZ.out]; go_tidy; clear HZ; refine Bool.eq_iff_iff.2 ?_; simp_all [shapeB, regB, numB, idxB, operB] <;> omega)

set_option maxRecDepth 100000 in
set_option maxHeartbeats 1000000 in
theorem op20 (a b c d : Int) (w : World) (hT : TableAt w) :
    Calls Tryd.prog 12 #[.agg #[.int .u8 20, .int .i64 a, .int .i64 b, .int .i64 c, .int .i64 d]] w fun e w' =>
      e = .returned (.bool (validB 20 a b c d)) ∧ Below w.heap.size w w' := by
  have ht : w.cell? ⟨0, 41, none⟩ = some (.int .i64 1) := hT 20 (by decide)
  have hlt := hT.lt
  have hz : zerosB 20 a b c d = (decide (b = 0) && decide (c = 0) && decide (d = 0)) := by simp [zerosB, arity, Bool.and_assoc]
  clear hT
  have HZ := Lib.hid hz; clear hz
  have i0 : ∀ w, (Instr.index 50 (.agg #[.int .i64 a, .int .i64 b, .int .i64 c, .int .i64 d]) (.int .i64 0)).run Tryd.prog w = .ok (.int .i64 a) w := fun _ => by kernel_rfl
  have i1 : ∀ w, (Instr.index 50 (.agg #[.int .i64 a, .int .i64 b, .int .i64 c, .int .i64 d]) (.int .i64 1)).run Tryd.prog w = .ok (.int .i64 b) w := fun _ => by kernel_rfl
  have i2 : ∀ w, (Instr.index 50 (.agg #[.int .i64 a, .int .i64 b, .int .i64 c, .int .i64 d]) (.int .i64 2)).run Tryd.prog w = .ok (.int .i64 c) w := fun _ => by kernel_rfl
  have i3 : ∀ w, (Instr.index 50 (.agg #[.int .i64 a, .int .i64 b, .int .i64 c, .int .i64 d]) (.int .i64 3)).run Tryd.prog w = .ok (.int .i64 d) w := fun _ => by kernel_rfl
  go_enter Tryd.func12, Tryd.ntmps12
  go_wp2
  go_rounds 5

  all_goals (go_ret; refine ⟨ret_bool ?_, (Below.refl _ _).alloc (Nat.le_refl _) _⟩; unfold validB; rw [HZ.out]; go_tidy; clear HZ; refine Bool.eq_iff_iff.2 ?_; simp_all [shapeB, regB, numB, idxB, operB] <;> omega)

set_option maxRecDepth 100000 in
set_option maxHeartbeats 1000000 in
theorem op27 (a b c d : Int) (w : World) (hT : TableAt w) :
    Calls Tryd.prog 12 #[.agg #[.int .u8 27, .int .i64 a, .int .i64 b, .int .i64 c, .int .i64 d]] w fun e w' =>
      e = .returned (.bool (validB 27 a b c d)) ∧ Below w.heap.size w w' := by
  have ht : w.cell? ⟨0, 55, none⟩ = some (.int .i64 2) := hT 27 (by decide)
  have hlt := hT.lt
  have hz : zerosB 27 a b c d = (decide (c = 0) && decide (d = 0)) := by simp [zerosB, arity]
  clear hT
  have HZ := Lib.hid hz; clear hz
  have i0 : ∀ w, (Instr.index 50 (.agg #[.int .i64 a, .int .i64 b, .int .i64 c, .int .i64 d]) (.int .i64 0)).run Tryd.prog w = .ok (.int .i64 a) w := fun _ => by kernel_rfl
  have i1 : ∀ w, (Instr.index 50 (.agg #[.int .i64 a, .int .i64 b, .int .i64 c, .int .i64 d]) (.int .i64 1)).run Tryd.prog w = .ok (.int .i64 b) w := fun _ => by kernel_rfl
  have i2 : ∀ w, (Instr.index 50 (.agg #[.int .i64 a, .int .i64 b, .int .i64 c, .int .i64 d]) (.int .i64 2)).run Tryd.prog w = .ok (.int .i64 c) w := fun _ => by kernel_rfl
  have i3 : ∀ w, (Instr.index 50 (.agg #[.int .i64 a, .int .i64 b, .int .i64 c, .int .i64 d]) (.int .i64 3)).run Tryd.prog w = .ok (.int .i64 d) w := fun _ => by kernel_rfl
  go_enter Tryd.func12, Tryd.ntmps12
  go_wp2
  go_rounds 5

  all_goals (go_ret; refine ⟨ret_bool ?_, (Below.refl _ _).alloc (Nat.le_refl _) _⟩; unfold validB; rw [HZ.out]; go_tidy; clear HZ; refine Bool.eq_iff_iff.2 ?_; simp_all [shapeB, regB, numB, idxB, operB] <;> omega)

set_option maxRecDepth 100000 in
set_option maxHeartbeats 1000000 in
theorem op34 (a b c d : Int) (w : World) (hT : TableAt w) :
    Calls Tryd.prog 12 #[.agg #[.int .u8 34, .int .i64 a, .int .i64 b, .int .i64 c, .int .i64 d]] w fun e w' =>
      e = .returned (.bool (validB 34 a b c d)) ∧ Below w.heap.size w w' := by
  have ht : w.cell? ⟨0, 69, none⟩ = some (.int .i64 0) := hT 34 (by decide)
  have hlt := hT.lt
  have hz : zerosB 34 a b c d = (decide (a = 0) && decide (b = 0) && decide (c = 0) && decide (d = 0)) := by simp [zerosB, arity, Bool.and_assoc]
  clear hT
  have HZ := Lib.hid hz; clear hz
  have i0 : ∀ w, (Instr.index 50 (.agg #[.int .i64 a, .int .i64 b, .int .i64 c, .int .i64 d]) (.int .i64 0)).run Tryd.prog w = .ok (.int .i64 a) w := fun _ => by kernel_rfl
  have i1 : ∀ w, (Instr.index 50 (.agg #[.int .i64 a, .int .i64 b, .int .i64 c, .int .i64 d]) (.int .i64 1)).run Tryd.prog w = .ok (.int .i64 b) w := fun _ => by kernel_rfl
  have i2 : ∀ w, (Instr.index 50 (.agg #[.int .i64 a, .int .i64 b, .int .i64 c, .int .i64 d]) (.int .i64 2)).run Tryd.prog w = .ok (.int .i64 c) w := fun _ => by kernel_rfl
  have i3 : ∀ w, (Instr.index 50 (.agg #[.int .i64 a, .int .i64 b, .int .i64 c, .int .i64 d]) (.int .i64 3)).run Tryd.prog w = .ok (.int .i64 d) w := fun _ => by kernel_rfl
  go_enter Tryd.func12, Tryd.ntmps12
  go_wp2
  go_rounds 5

  all_goals (go_ret; refine ⟨ret_bool ?_, (Below.refl _ _).alloc (Nat.le_refl _) _⟩; unfold validB; rw [HZ.out]; go_tidy; clear HZ; refine Bool.eq_iff_iff.2 ?_; simp_all [shapeB, regB, numB, idxB, operB] <;> omega)

end Valid
end Go.Proofs.YtfobnkgfbdmakaaDoor
