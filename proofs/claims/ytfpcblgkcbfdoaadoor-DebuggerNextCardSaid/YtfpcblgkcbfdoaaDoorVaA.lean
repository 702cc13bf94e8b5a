/- Several texts in one: ValidA ValidB ValidC ValidD. -/
import Derived.Test.YtfpcblgkcbfdoaaDoorIsT
import Derived.Handy
set_option linter.unusedVariables false
set_option linter.unusedSimpArgs false
/- The walk of isa.Valid: one theorem an opcode, a part (written by gen_valid.py). -/
set_option linter.unusedSimpArgs false
namespace Go.Proofs.YtfpcblgkcbfdoaaDoor
open Go.RowKit Bk

namespace Valid

set_option maxRecDepth 100000 in
set_option maxHeartbeats 1000000 in
theorem op0 (a b c d : Int) (w : World) (hT : TableAt w) :
    Calls Tryd.prog 47 #[.agg #[.int .u8 0, .int .i64 a, .int .i64 b, .int .i64 c, .int .i64 d]] w fun e w' =>
      e = .returned (.bool (validB 0 a b c d)) ∧ Below w.heap.size w w' := by
  have ht : w.cell? ⟨0, 1, none⟩ = some (.int .i64 0) := hT 0 (by decide)
  have hlt := hT.lt
  have hz : zerosB 0 a b c d = (decide (a = 0) && decide (b = 0) && decide (c = 0) && decide (d = 0)) := by simp [zerosB, arity, Bool.and_assoc]
  clear hT
  have HZ := Lib.hid hz; clear hz
  have i0 : ∀ w, (Instr.index 98 (.agg #[.int .i64 a, .int .i64 b, .int .i64 c, .int .i64 d]) (.int .i64 0)).run Tryd.prog w = .ok (.int .i64 a) w := fun _ => by kernel_rfl
  have i1 : ∀ w, (Instr.index 98 (.agg #[.int .i64 a, .int .i64 b, .int .i64 c, .int .i64 d]) (.int .i64 1)).run Tryd.prog w = .ok (.int .i64 b) w := fun _ => by kernel_rfl
  have i2 : ∀ w, (Instr.index 98 (.agg #[.int .i64 a, .int .i64 b, .int .i64 c, .int .i64 d]) (.int .i64 2)).run Tryd.prog w = .ok (.int .i64 c) w := fun _ => by kernel_rfl
  have i3 : ∀ w, (Instr.index 98 (.agg #[.int .i64 a, .int .i64 b, .int .i64 c, .int .i64 d]) (.int .i64 3)).run Tryd.prog w = .ok (.int .i64 d) w := fun _ => by kernel_rfl
  go_enter Tryd.func47, Tryd.ntmps47
  go_wp2
  go_rounds 5

  all_goals (go_ret; refine ⟨ret_bool ?_, (Below.refl _ _).alloc (Nat.le_refl _) _⟩; unfold validB; rw [HZ.out]; go_tidy; clear HZ; refine Bool.eq_iff_iff.2 ?_; simp_all [shapeB, regB, numB, idxB, operB] <;> omega)

set_option maxRecDepth 100000 in
set_option maxHeartbeats 1000000 in
theorem op7 (a b c d : Int) (w : World) (hT : TableAt w) :
    Calls Tryd.prog 47 #[.agg #[.int .u8 7, .int .i64 a, .int .i64 b, .int .i64 c, .int .i64 d]] w fun e w' =>
      e = .returned (.bool (validB 7 a b c d)) ∧ Below w.heap.size w w' := by
  have ht : w.cell? ⟨0, 15, none⟩ = some (.int .i64 2) := hT 7 (by decide)
  have hlt := hT.lt
  have hz : zerosB 7 a b c d = (decide (c = 0) && decide (d = 0)) := by simp [zerosB, arity]
  clear hT
  have HZ := Lib.hid hz; clear hz
  have i0 : ∀ w, (Instr.index 98 (.agg #[.int .i64 a, .int .i64 b, .int .i64 c, .int .i64 d]) (.int .i64 0)).run Tryd.prog w = .ok (.int .i64 a) w := fun _ => by kernel_rfl
  have i1 : ∀ w, (Instr.index 98 (.agg #[.int .i64 a, .int .i64 b, .int .i64 c, .int .i64 d]) (.int .i64 1)).run Tryd.prog w = .ok (.int .i64 b) w := fun _ => by kernel_rfl
  have i2 : ∀ w, (Instr.index 98 (.agg #[.int .i64 a, .int .i64 b, .int .i64 c, .int .i64 d]) (.int .i64 2)).run Tryd.prog w = .ok (.int .i64 c) w := fun _ => by kernel_rfl
  have i3 : ∀ w, (Instr.index 98 (.agg #[.int .i64 a, .int .i64 b, .int .i64 c, .int .i64 d]) (.int .i64 3)).run Tryd.prog w = .ok (.int .i64 d) w := fun _ => by kernel_rfl
  go_enter Tryd.func47, Tryd.ntmps47
  go_wp2
  go_rounds 5

  all_goals (go_ret; refine ⟨ret_bool ?_, (Below.refl _ _).alloc (Nat.le_refl _) _⟩; unfold validB; rw [HZ.out]; go_tidy; clear HZ; refine Bool.eq_iff_iff.2 ?_; simp_all [shapeB, regB, numB, idxB, operB] <;> omega)

set_option maxRecDepth 100000 in
set_option maxHeartbeats 1000000 in
theorem op14 (a b c d : Int) (w : World) (hT : TableAt w) :
    Calls Tryd.prog 47 #[.agg #[.int .u8 14, .int .i64 a, .int .i64 b, .int .i64 c, .int .i64 d]] w fun e w' =>
      e = .returned (.bool (validB 14 a b c d)) ∧ Below w.heap.size w w' := by
  have ht : w.cell? ⟨0, 29, none⟩ = some (.int .i64 2) := hT 14 (by decide)
  have hlt := hT.lt
  have hz : zerosB 14 a b c d = (decide (c = 0) && decide (d = 0)) := by simp [zerosB, arity]
  clear hT
  have HZ := Lib.hid hz; clear hz
  have i0 : ∀ w, (Instr.index 98 (.agg #[.int .i64 a, .int .i64 b, .int .i64 c, .int .i64 d]) (.int .i64 0)).run Tryd.prog w = .ok (.int .i64 a) w := fun _ => by kernel_rfl
  have i1 : ∀ w, (Instr.index 98 (.agg #[.int .i64 a, .int .i64 b, .int .i64 c, .int .i64 d]) (.int .i64 1)).run Tryd.prog w = .ok (.int .i64 b) w := fun _ => by kernel_rfl
  have i2 : ∀ w, (Instr.index 98 (.agg #[.int .i64 a, .int .i64 b, .int .i64 c, .int .i64 d]) (.int .i64 2)).run Tryd.prog w = .ok (.int .i64 c) w := fun _ => by kernel_rfl
  have i3 : ∀ w, (Instr.index 98 (.agg #[.int .i64 a, .int .i64 b, .int .i64 c, .int .i64 d]) (.int .i64 3)).run Tryd.prog w = .ok (.int .i64 d) w := fun _ => by kernel_rfl
  go_enter Tryd.func47, Tryd.ntmps47
  go_wp2
  go_rounds 5

  all_goals (go_ret; refine ⟨ret_bool ?_, (Below.refl _ _).alloc (Nat.le_refl _) _⟩; unfold validB; rw [HZ.out]; go_tidy; clear HZ; refine Bool.eq_iff_iff.2 ?_; simp_all [shapeB, regB, numB, idxB, operB] <;> omega)

set_option maxRecDepth 100000 in
set_option maxHeartbeats 1000000 in
theorem op21 (a b c d : Int) (w : World) (hT : TableAt w) :
    Calls Tryd.prog 47 #[.agg #[.int .u8 21, .int .i64 a, .int .i64 b, .int .i64 c, .int .i64 d]] w fun e w' =>
      e = .returned (.bool (validB 21 a b c d)) ∧ Below w.heap.size w w' := by
  have ht : w.cell? ⟨0, 43, none⟩ = some (.int .i64 2) := hT 21 (by decide)
  have hlt := hT.lt
  have hz : zerosB 21 a b c d = (decide (c = 0) && decide (d = 0)) := by simp [zerosB, arity]
  clear hT
  have HZ := Lib.hid hz; clear hz
  have i0 : ∀ w, (Instr.index 98 (.agg #[.int .i64 a, .int .i64 b, .int .i64 c, .int .i64 d]) (.int .i64 0)).run Tryd.prog w = .ok (.int .i64 a) w := fun _ => by kernel_rfl
  have i1 : ∀ w, (Instr.index 98 (.agg #[.int .i64 a, .int .i64 b, .int .i64 c, .int .i64 d]) (.int .i64 1)).run Tryd.prog w = .ok (.int .i64 b) w := fun _ => by kernel_rfl
  have i2 : ∀ w, (Instr.index 98 (.agg #[.int .i64 a, .int .i64 b, .int .i64 c, .int .i64 d]) (.int .i64 2)).run Tryd.prog w = .ok (.int .i64 c) w := fun _ => by kernel_rfl
  have i3 : ∀ w, (Instr.index 98 (.agg #[.int .i64 a, .int .i64 b, .int .i64 c, .int .i64 d]) (.int .i64 3)).run Tryd.prog w = .ok (.int .i64 d) w := fun _ => by kernel_rfl
  go_enter Tryd.func47, Tryd.ntmps47
  go_wp2
  go_rounds 5

  all_goals (go_ret; refine ⟨ret_bool ?_, (Below.refl _ _).alloc (Nat.le_refl _) _⟩; unfold validB; rw [HZ.out]; go_tidy; clear HZ; refine Bool.eq_iff_iff.2 ?_; simp_all [shapeB, regB, numB, idxB, operB] <;> omega)

set_option maxRecDepth 100000 in
set_option maxHeartbeats 1000000 in
theorem op28 (a b c d : Int) (w : World) (hT : TableAt w) :
    Calls Tryd.prog 47 #[.agg #[.int .u8 28, .int .i64 a, .int .i64 b, .int .i64 c, .int .i64 d]] w fun e w' =>
      e = .returned (.bool (validB 28 a b c d)) ∧ Below w.heap.size w w' := by
  have ht : w.cell? ⟨0, 57, none⟩ = some (.int .i64 2) := hT 28 (by decide)
  have hlt := hT.lt
  have hz : zerosB 28 a b c d = (decide (c = 0) && decide (d = 0)) := by simp [zerosB, arity]
  clear hT
  have HZ := Lib.hid hz; clear hz
  have i0 : ∀ w, (Instr.index 98 (.agg #[.int .i64 a, .int .i64 b, .int .i64 c, .int .i64 d]) (.int .i64 0)).run Tryd.prog w = .ok (.int .i64 a) w := fun _ => by kernel_rfl
  have i1 : ∀ w, (Instr.index 98 (.agg #[.int .i64 a, .int .i64 b, .int .i64 c, .int .i64 d]) (.int .i64 1)).run Tryd.prog w = .ok (.int .i64 b) w := fun _ => by kernel_rfl
  have i2 : ∀ w, (Instr.index 98 (.agg #[.int .i64 a, .int .i64 b, .int .i64 c, .int .i64 d]) (.int .i64 2)).run Tryd.prog w = .ok (.int .i64 c) w := fun _ => by kernel_rfl
  have i3 : ∀ w, (Instr.index 98 (.agg #[.int .i64 a, .int .i64 b, .int .i64 c, .int .i64 d]) (.int .i64 3)).run Tryd.prog w = .ok (.int .i64 d) w := fun _ => by kernel_rfl
  go_enter Tryd.func47, Tryd.ntmps47
  go_wp2
  go_rounds 5

  all_goals (go_ret; refine ⟨ret_bool ?_, (Below.refl _ _).alloc (Nat.le_refl _) _⟩; unfold validB; rw [HZ.out]; go_tidy; clear HZ; refine Bool.eq_iff_iff.2 ?_; simp_all [shapeB, regB, numB, idxB, operB] <;> omega)

end Valid
end Go.Proofs.YtfpcblgkcbfdoaaDoor

/- The walk of isa.Valid: one theorem an opcode, a part (written by gen_valid.py). -/
set_option linter.unusedSimpArgs false
namespace Go.Proofs.YtfpcblgkcbfdoaaDoor
open Go.RowKit Bk

namespace Valid

set_option maxRecDepth 100000 in
set_option maxHeartbeats 1000000 in
theorem op1 (a b c d : Int) (w : World) (hT : TableAt w) :
    Calls Tryd.prog 47 #[.agg #[.int .u8 1, .int .i64 a, .int .i64 b, .int .i64 c, .int .i64 d]] w fun e w' =>
      e = .returned (.bool (validB 1 a b c d)) ∧ Below w.heap.size w w' := by
  have ht : w.cell? ⟨0, 3, none⟩ = some (.int .i64 2) := hT 1 (by decide)
  have hlt := hT.lt
  have hz : zerosB 1 a b c d = (decide (c = 0) && decide (d = 0)) := by simp [zerosB, arity]
  clear hT
  have HZ := Lib.hid hz; clear hz
  have i0 : ∀ w, (Instr.index 98 (.agg #[.int .i64 a, .int .i64 b, .int .i64 c, .int .i64 d]) (.int .i64 0)).run Tryd.prog w = .ok (.int .i64 a) w := fun _ => by kernel_rfl
  have i1 : ∀ w, (Instr.index 98 (.agg #[.int .i64 a, .int .i64 b, .int .i64 c, .int .i64 d]) (.int .i64 1)).run Tryd.prog w = .ok (.int .i64 b) w := fun _ => by kernel_rfl
  have i2 : ∀ w, (Instr.index 98 (.agg #[.int .i64 a, .int .i64 b, .int .i64 c, .int .i64 d]) (.int .i64 2)).run Tryd.prog w = .ok (.int .i64 c) w := fun _ => by kernel_rfl
  have i3 : ∀ w, (Instr.index 98 (.agg #[.int .i64 a, .int .i64 b, .int .i64 c, .int .i64 d]) (.int .i64 3)).run Tryd.prog w = .ok (.int .i64 d) w := fun _ => by kernel_rfl
  go_enter Tryd.func47, Tryd.ntmps47
  go_wp2
  go_rounds 5

  all_goals (go_ret; refine ⟨ret_bool ?_, (Below.refl _ _).alloc (Nat.le_refl _) _⟩; unfold validB; rw [HZ.out]; go_tidy; clear HZ; refine Bool.eq_iff_iff.2 ?_; simp_all [shapeB, regB, numB, idxB, operB] <;> omega)

set_option maxRecDepth 100000 in
set_option maxHeartbeats 1000000 in
theorem op8 (a b c d : Int) (w : World) (hT : TableAt w) :
    Calls Tryd.prog 47 #[.agg #[.int .u8 8, .int .i64 a, .int .i64 b, .int .i64 c, .int .i64 d]] w fun e w' =>
      e = .returned (.bool (validB 8 a b c d)) ∧ Below w.heap.size w w' := by
  have ht : w.cell? ⟨0, 17, none⟩ = some (.int .i64 1) := hT 8 (by decide)
  have hlt := hT.lt
  have hz : zerosB 8 a b c d = (decide (b = 0) && decide (c = 0) && decide (d = 0)) := by simp [zerosB, arity, Bool.and_assoc]
  clear hT
  have HZ := Lib.hid hz; clear hz
  have i0 : ∀ w, (Instr.index 98 (.agg #[.int .i64 a, .int .i64 b, .int .i64 c, .int .i64 d]) (.int .i64 0)).run Tryd.prog w = .ok (.int .i64 a) w := fun _ => by kernel_rfl
  have i1 : ∀ w, (Instr.index 98 (.agg #[.int .i64 a, .int .i64 b, .int .i64 c, .int .i64 d]) (.int .i64 1)).run Tryd.prog w = .ok (.int .i64 b) w := fun _ => by kernel_rfl
  have i2 : ∀ w, (Instr.index 98 (.agg #[.int .i64 a, .int .i64 b, .int .i64 c, .int .i64 d]) (.int .i64 2)).run Tryd.prog w = .ok (.int .i64 c) w := fun _ => by kernel_rfl
  have i3 : ∀ w, (Instr.index 98 (.agg #[.int .i64 a, .int .i64 b, .int .i64 c, .int .i64 d]) (.int .i64 3)).run Tryd.prog w = .ok (.int .i64 d) w := fun _ => by kernel_rfl
  go_enter Tryd.func47, Tryd.ntmps47
  go_wp2
  go_rounds 5

  all_goals (go_ret; refine ⟨ret_bool ?_, (Below.refl _ _).alloc (Nat.le_refl _) _⟩; unfold validB; rw [HZ.out]; go_tidy; clear HZ; refine Bool.eq_iff_iff.2 ?_; simp_all [shapeB, regB, numB, idxB, operB] <;> omega)

set_option maxRecDepth 100000 in
set_option maxHeartbeats 1000000 in
theorem op15 (a b c d : Int) (w : World) (hT : TableAt w) :
    Calls Tryd.prog 47 #[.agg #[.int .u8 15, .int .i64 a, .int .i64 b, .int .i64 c, .int .i64 d]] w fun e w' =>
      e = .returned (.bool (validB 15 a b c d)) ∧ Below w.heap.size w w' := by
  have ht : w.cell? ⟨0, 31, none⟩ = some (.int .i64 2) := hT 15 (by decide)
  have hlt := hT.lt
  have hz : zerosB 15 a b c d = (decide (c = 0) && decide (d = 0)) := by simp [zerosB, arity]
  clear hT
  have HZ := Lib.hid hz; clear hz
  have i0 : ∀ w, (Instr.index 98 (.agg #[.int .i64 a, .int .i64 b, .int .i64 c, .int .i64 d]) (.int .i64 0)).run Tryd.prog w = .ok (.int .i64 a) w := fun _ => by kernel_rfl
  have i1 : ∀ w, (Instr.index 98 (.agg #[.int .i64 a, .int .i64 b, .int .i64 c, .int .i64 d]) (.int .i64 1)).run Tryd.prog w = .ok (.int .i64 b) w := fun _ => by kernel_rfl
  have i2 : ∀ w, (Instr.index 98 (.agg #[.int .i64 a, .int .i64 b, .int .i64 c, .int .i64 d]) (.int .i64 2)).run Tryd.prog w = .ok (.int .i64 c) w := fun _ => by kernel_rfl
  have i3 : ∀ w, (Instr.index 98 (.agg #[.int .i64 a, .int .i64 b, .int .i64 c, .int .i64 d]) (.int .i64 3)).run Tryd.prog w = .ok (.int .i64 d) w := fun _ => by kernel_rfl
  go_enter Tryd.func47, Tryd.ntmps47
  go_wp2
  go_rounds 5

  all_goals (go_ret; refine ⟨ret_bool ?_, (Below.refl _ _).alloc (Nat.le_refl _) _⟩; unfold validB; rw [HZ.out]; go_tidy; clear HZ; refine Bool.eq_iff_iff.2 ?_; simp_all [shapeB, regB, numB, idxB, operB] <;> omega)

set_option maxRecDepth 100000 in
set_option maxHeartbeats 1000000 in
theorem op22 (a b c d : Int) (w : World) (hT : TableAt w) :
    Calls Tryd.prog 47 #[.agg #[.int .u8 22, .int .i64 a, .int .i64 b, .int .i64 c, .int .i64 d]] w fun e w' =>
      e = .returned (.bool (validB 22 a b c d)) ∧ Below w.heap.size w w' := by
  have ht : w.cell? ⟨0, 45, none⟩ = some (.int .i64 1) := hT 22 (by decide)
  have hlt := hT.lt
  have hz : zerosB 22 a b c d = (decide (b = 0) && decide (c = 0) && decide (d = 0)) := by simp [zerosB, arity, Bool.and_assoc]
  clear hT
  have HZ := Lib.hid hz; clear hz
  have i0 : ∀ w, (Instr.index 98 (.agg #[.int .i64 a, .int .i64 b, .int .i64 c, .int .i64 d]) (.int .i64 0)).run Tryd.prog w = .ok (.int .i64 a) w := fun _ => by kernel_rfl
  have i1 : ∀ w, (Instr.index 98 (.agg #[.int .i64 a, .int .i64 b, .int .i64 c, .int .i64 d]) (.int .i64 1)).run Tryd.prog w = .ok (.int .i64 b) w := fun _ => by kernel_rfl
  have i2 : ∀ w, (Instr.index 98 (.agg #[.int .i64 a, .int .i64 b, .int .i64 c, .int .i64 d]) (.int .i64 2)).run Tryd.prog w = .ok (.int .i64 c) w := fun _ => by kernel_rfl
  have i3 : ∀ w, (Instr.index 98 (.agg #[.int .i64 a, .int .i64 b, .int .i64 c, .int .i64 d]) (.int .i64 3)).run Tryd.prog w = .ok (.int .i64 d) w := fun _ => by kernel_rfl
  go_enter Tryd.func47, Tryd.ntmps47
  go_wp2
  go_rounds 5

  all_goals (go_ret; refine ⟨ret_bool ?_, (Below.refl _ _).alloc (Nat.le_refl _) _⟩; unfold validB; rw [HZ.out]; go_tidy; clear HZ; refine Bool.eq_iff_iff.2 ?_; simp_all [shapeB, regB, numB, idxB, operB] <;> omega)

set_option maxRecDepth 100000 in
set_option maxHeartbeats 1000000 in
theorem op29 (a b c d : Int) (w : World) (hT : TableAt w) :
    Calls Tryd.prog 47 #[.agg #[.int .u8 29, .int .i64 a, .int .i64 b, .int .i64 c, .int .i64 d]] w fun e w' =>
      e = .returned (.bool (validB 29 a b c d)) ∧ Below w.heap.size w w' := by
  have ht : w.cell? ⟨0, 59, none⟩ = some (.int .i64 2) := hT 29 (by decide)
  have hlt := hT.lt
  have hz : zerosB 29 a b c d = (decide (c = 0) && decide (d = 0)) := by simp [zerosB, arity]
  clear hT
  have HZ := Lib.hid hz; clear hz
  have i0 : ∀ w, (Instr.index 98 (.agg #[.int .i64 a, .int .i64 b, .int .i64 c, .int .i64 d]) (.int .i64 0)).run Tryd.prog w = .ok (.int .i64 a) w := fun _ => by kernel_rfl
  have i1 : ∀ w, (Instr.index 98 (.agg #[.int .i64 a, .int .i64 b, .int .i64 c, .int .i64 d]) (.int .i64 1)).run Tryd.prog w = .ok (.int .i64 b) w := fun _ => by kernel_rfl
  have i2 : ∀ w, (Instr.index 98 (.agg #[.int .i64 a, .int .i64 b, .int .i64 c, .int .i64 d]) (.int .i64 2)).run Tryd.prog w = .ok (.int .i64 c) w := fun _ => by kernel_rfl
  have i3 : ∀ w, (Instr.index 98 (.agg #[.int .i64 a, .int .i64 b, .int .i64 c, .int .i64 d]) (.int .i64 3)).run Tryd.prog w = .ok (.int .i64 d) w := fun _ => by kernel_rfl
  go_enter Tryd.func47, Tryd.ntmps47
  go_wp2
  go_rounds 5

  all_goals (go_ret; refine ⟨ret_bool ?_, (Below.refl _ _).alloc (Nat.le_refl _) _⟩; unfold validB; rw [HZ.out]; go_tidy; clear HZ; refine Bool.eq_iff_iff.2 ?_; simp_all [shapeB, regB, numB, idxB, operB] <;> omega)

end Valid
end Go.Proofs.YtfpcblgkcbfdoaaDoor

/- The walk of isa.Valid: one theorem an opcode, a part (written by gen_valid.py). -/
set_option linter.unusedSimpArgs false
namespace Go.Proofs.YtfpcblgkcbfdoaaDoor
open Go.RowKit Bk

namespace Valid

set_option maxRecDepth 100000 in
set_option maxHeartbeats 1000000 in
theorem op2 (a b c d : Int) (w : World) (hT : TableAt w) :
    Calls Tryd.prog 47 #[.agg #[.int .u8 2, .int .i64 a, .int .i64 b, .int .i64 c, .int .i64 d]] w fun e w' =>
      e = .returned (.bool (validB 2 a b c d)) ∧ Below w.heap.size w w' := by
  have ht : w.cell? ⟨0, 5, none⟩ = some (.int .i64 2) := hT 2 (by decide)
  have hlt := hT.lt
  have hz : zerosB 2 a b c d = (decide (c = 0) && decide (d = 0)) := by simp [zerosB, arity]
  clear hT
  have HZ := Lib.hid hz; clear hz
  have i0 : ∀ w, (Instr.index 98 (.agg #[.int .i64 a, .int .i64 b, .int .i64 c, .int .i64 d]) (.int .i64 0)).run Tryd.prog w = .ok (.int .i64 a) w := fun _ => by kernel_rfl
  have i1 : ∀ w, (Instr.index 98 (.agg #[.int .i64 a, .int .i64 b, .int .i64 c, .int .i64 d]) (.int .i64 1)).run Tryd.prog w = .ok (.int .i64 b) w := fun _ => by kernel_rfl
  have i2 : ∀ w, (Instr.index 98 (.agg #[.int .i64 a, .int .i64 b, .int .i64 c, .int .i64 d]) (.int .i64 2)).run Tryd.prog w = .ok (.int .i64 c) w := fun _ => by kernel_rfl
  have i3 : ∀ w, (Instr.index 98 (.agg #[.int .i64 a, .int .i64 b, .int .i64 c, .int .i64 d]) (.int .i64 3)).run Tryd.prog w = .ok (.int .i64 d) w := fun _ => by kernel_rfl
  go_enter Tryd.func47, Tryd.ntmps47
  go_wp2
  go_rounds 5

  all_goals (go_ret; refine ⟨ret_bool ?_, (Below.refl _ _).alloc (Nat.le_refl _) _⟩; unfold validB; rw [HZ.out]; go_tidy; clear HZ; refine Bool.eq_iff_iff.2 ?_; simp_all [shapeB, regB, numB, idxB, operB] <;> omega)

set_option maxRecDepth 100000 in
set_option maxHeartbeats 1000000 in
theorem op9 (a b c d : Int) (w : World) (hT : TableAt w) :
    Calls Tryd.prog 47 #[.agg #[.int .u8 9, .int .i64 a, .int .i64 b, .int .i64 c, .int .i64 d]] w fun e w' =>
      e = .returned (.bool (validB 9 a b c d)) ∧ Below w.heap.size w w' := by
  have ht : w.cell? ⟨0, 19, none⟩ = some (.int .i64 4) := hT 9 (by decide)
  have hlt := hT.lt
  have hz : zerosB 9 a b c d = (true) := by simp [zerosB, arity]
  clear hT
  have HZ := Lib.hid hz; clear hz
  have i0 : ∀ w, (Instr.index 98 (.agg #[.int .i64 a, .int .i64 b, .int .i64 c, .int .i64 d]) (.int .i64 0)).run Tryd.prog w = .ok (.int .i64 a) w := fun _ => by kernel_rfl
  have i1 : ∀ w, (Instr.index 98 (.agg #[.int .i64 a, .int .i64 b, .int .i64 c, .int .i64 d]) (.int .i64 1)).run Tryd.prog w = .ok (.int .i64 b) w := fun _ => by kernel_rfl
  have i2 : ∀ w, (Instr.index 98 (.agg #[.int .i64 a, .int .i64 b, .int .i64 c, .int .i64 d]) (.int .i64 2)).run Tryd.prog w = .ok (.int .i64 c) w := fun _ => by kernel_rfl
  have i3 : ∀ w, (Instr.index 98 (.agg #[.int .i64 a, .int .i64 b, .int .i64 c, .int .i64 d]) (.int .i64 3)).run Tryd.prog w = .ok (.int .i64 d) w := fun _ => by kernel_rfl
  go_enter Tryd.func47, Tryd.ntmps47
  go_wp2
  go_rounds 5

  all_goals (go_ret; refine ⟨ret_bool ?_, (Below.refl _ _).alloc (Nat.le_refl _) _⟩; unfold validB; rw [HZ.out]; go_tidy; clear HZ; refine Bool.eq_iff_iff.2 ?_; simp_all [shapeB, regB, numB, idxB, operB] <;> omega)

set_option maxRecDepth 100000 in
set_option maxHeartbeats 1000000 in
theorem op16 (a b c d : Int) (w : World) (hT : TableAt w) :
    Calls Tryd.prog 47 #[.agg #[.int .u8 16, .int .i64 a, .int .i64 b, .int .i64 c, .int .i64 d]] w fun e w' =>
      e = .returned (.bool (validB 16 a b c d)) ∧ Below w.heap.size w w' := by
  have ht : w.cell? ⟨0, 33, none⟩ = some (.int .i64 2) := hT 16 (by decide)
  have hlt := hT.lt
  have hz : zerosB 16 a b c d = (decide (c = 0) && decide (d = 0)) := by simp [zerosB, arity]
  clear hT
  have HZ := Lib.hid hz; clear hz
  have i0 : ∀ w, (Instr.index 98 (.agg #[.int .i64 a, .int .i64 b, .int .i64 c, .int .i64 d]) (.int .i64 0)).run Tryd.prog w = .ok (.int .i64 a) w := fun _ => by kernel_rfl
  have i1 : ∀ w, (Instr.index 98 (.agg #[.int .i64 a, .int .i64 b, .int .i64 c, .int .i64 d]) (.int .i64 1)).run Tryd.prog w = .ok (.int .i64 b) w := fun _ => by kernel_rfl
  have i2 : ∀ w, (Instr.index 98 (.agg #[.int .i64 a, .int .i64 b, .int .i64 c, .int .i64 d]) (.int .i64 2)).run Tryd.prog w = .ok (.int .i64 c) w := fun _ => by kernel_rfl
  have i3 : ∀ w, (Instr.index 98 (.agg #[.int .i64 a, .int .i64 b, .int .i64 c, .int .i64 d]) (.int .i64 3)).run Tryd.prog w = .ok (.int .i64 d) w := fun _ => by kernel_rfl
  go_enter Tryd.func47, Tryd.ntmps47
  go_wp2
  go_rounds 5

  all_goals (go_ret; refine ⟨ret_bool ?_, (Below.refl _ _).alloc (Nat.le_refl _) _⟩; unfold validB; rw [HZ.out]; go_tidy; clear HZ; refine Bool.eq_iff_iff.2 ?_; simp_all [shapeB, regB, numB, idxB, operB] <;> omega)

set_option maxRecDepth 100000 in
set_option maxHeartbeats 1000000 in
theorem op23 (a b c d : Int) (w : World) (hT : TableAt w) :
    Calls Tryd.prog 47 #[.agg #[.int .u8 23, .int .i64 a, .int .i64 b, .int .i64 c, .int .i64 d]] w fun e w' =>
      e = .returned (.bool (validB 23 a b c d)) ∧ Below w.heap.size w w' := by
  have ht : w.cell? ⟨0, 47, none⟩ = some (.int .i64 2) := hT 23 (by decide)
  have hlt := hT.lt
  have hz : zerosB 23 a b c d = (decide (c = 0) && decide (d = 0)) := by simp [zerosB, arity]
  clear hT
  have HZ := Lib.hid hz; clear hz
  have i0 : ∀ w, (Instr.index 98 (.agg #[.int .i64 a, .int .i64 b, .int .i64 c, .int .i64 d]) (.int .i64 0)).run Tryd.prog w = .ok (.int .i64 a) w := fun _ => by kernel_rfl
  have i1 : ∀ w, (Instr.index 98 (.agg #[.int .i64 a, .int .i64 b, .int .i64 c, .int .i64 d]) (.int .i64 1)).run Tryd.prog w = .ok (.int .i64 b) w := fun _ => by kernel_rfl
  have i2 : ∀ w, (Instr.index 98 (.agg #[.int .i64 a, .int .i64 b, .int .i64 c, .int .i64 d]) (.int .i64 2)).run Tryd.prog w = .ok (.int .i64 c) w := fun _ => by kernel_rfl
  have i3 : ∀ w, (Instr.index 98 (.agg #[.int .i64 a, .int .i64 b, .int .i64 c, .int .i64 d]) (.int .i64 3)).run Tryd.prog w = .ok (.int .i64 d) w := fun _ => by kernel_rfl
  go_enter Tryd.func47, Tryd.ntmps47
  go_wp2
  go_rounds 5

  all_goals (go_ret; refine ⟨ret_bool ?_, (Below.refl _ _).alloc (Nat.le_refl _) _⟩; unfold validB; rw [HZ.out]; go_tidy; clear HZ; refine Bool.eq_iff_iff.2 ?_; simp_all [shapeB, regB, numB, idxB, operB] <;> omega)

set_option maxRecDepth 100000 in
set_option maxHeartbeats 1000000 in
theorem op30 (a b c d : Int) (w : World) (hT : TableAt w) :
    Calls Tryd.prog 47 #[.agg #[.int .u8 30, .int .i64 a, .int .i64 b, .int .i64 c, .int .i64 d]] w fun e w' =>
      e = .returned (.bool (validB 30 a b c d)) ∧ Below w.heap.size w w' := by
  have ht : w.cell? ⟨0, 61, none⟩ = some (.int .i64 1) := hT 30 (by decide)
  have hlt := hT.lt
  have hz : zerosB 30 a b c d = (decide (b = 0) && decide (c = 0) && decide (d = 0)) := by simp [zerosB, arity, Bool.and_assoc]
  clear hT
  have HZ := Lib.hid hz; clear hz
  have i0 : ∀ w, (Instr.index 98 (.agg #[.int .i64 a, .int .i64 b, .int .i64 c, .int .i64 d]) (.int .i64 0)).run Tryd.prog w = .ok (.int .i64 a) w := fun _ => by kernel_rfl
  have i1 : ∀ w, (Instr.index 98 (.agg #[.int .i64 a, .int .i64 b, .int .i64 c, .int .i64 d]) (.int .i64 1)).run Tryd.prog w = .ok (.int .i64 b) w := fun _ => by kernel_rfl
  have i2 : ∀ w, (Instr.index 98 (.agg #[.int .i64 a, .int .i64 b, .int .i64 c, .int .i64 d]) (.int .i64 2)).run Tryd.prog w = .ok (.int .i64 c) w := fun _ => by kernel_rfl
  have i3 : ∀ w, (Instr.index 98 (.agg #[.int .i64 a, .int .i64 b, .int .i64 c, .int .i64 d]) (.int .i64 3)).run Tryd.prog w = .ok (.int .i64 d) w := fun _ => by kernel_rfl
  go_enter Tryd.func47, Tryd.ntmps47
  go_wp2
  go_rounds 5

  all_goals (go_ret; refine ⟨ret_bool ?_, (Below.refl _ _).alloc (Nat.le_refl _) _⟩; unfold validB; rw [HZ.out]; go_tidy; clear HZ; refine Bool.eq_iff_iff.2 ?_; simp_all [shapeB, regB, numB, idxB, operB] <;> omega)

end Valid
end Go.Proofs.YtfpcblgkcbfdoaaDoor

/- The walk of isa.Valid: one theorem an opcode, a part (written by gen_valid.py). -/
set_option linter.unusedSimpArgs false
namespace Go.Proofs.YtfpcblgkcbfdoaaDoor
open Go.RowKit Bk

namespace Valid

set_option maxRecDepth 100000 in
set_option maxHeartbeats 1000000 in
theorem op3 (a b c d : Int) (w : World) (hT : TableAt w) :
    Calls Tryd.prog 47 #[.agg #[.int .u8 3, .int .i64 a, .int .i64 b, .int .i64 c, .int .i64 d]] w fun e w' =>
      e = .returned (.bool (validB 3 a b c d)) ∧ Below w.heap.size w w' := by
  have ht : w.cell? ⟨0, 7, none⟩ = some (.int .i64 2) := hT 3 (by decide)
  have hlt := hT.lt
  have hz : zerosB 3 a b c d = (decide (c = 0) && decide (d = 0)) := by simp [zerosB, arity]
  clear hT
  have HZ := Lib.hid hz; clear hz
  have i0 : ∀ w, (Instr.index 98 (.agg #[.int .i64 a, .int .i64 b, .int .i64 c, .int .i64 d]) (.int .i64 0)).run Tryd.prog w = .ok (.int .i64 a) w := fun _ => by kernel_rfl
  have i1 : ∀ w, (Instr.index 98 (.agg #[.int .i64 a, .int .i64 b, .int .i64 c, .int .i64 d]) (.int .i64 1)).run Tryd.prog w = .ok (.int .i64 b) w := fun _ => by kernel_rfl
  have i2 : ∀ w, (Instr.index 98 (.agg #[.int .i64 a, .int .i64 b, .int .i64 c, .int .i64 d]) (.int .i64 2)).run Tryd.prog w = .ok (.int .i64 c) w := fun _ => by kernel_rfl
  have i3 : ∀ w, (Instr.index 98 (.agg #[.int .i64 a, .int .i64 b, .int .i64 c, .int .i64 d]) (.int .i64 3)).run Tryd.prog w = .ok (.int .i64 d) w := fun _ => by kernel_rfl
  go_enter Tryd.func47, Tryd.ntmps47
  go_wp2
  go_rounds 5

  all_goals (go_ret; refine ⟨ret_bool ?_, (Below.refl _ _).alloc (Nat.le_refl _) _⟩; unfold validB; rw [HZ.out]; go_tidy; clear HZ; refine Bool.eq_iff_iff.2 ?_; simp_all [shapeB, regB, numB, idxB, operB] <;> omega)

set_option maxRecDepth 100000 in
set_option maxHeartbeats 1000000 in
theorem op10 (a b c d : Int) (w : World) (hT : TableAt w) :
    Calls Tryd.prog 47 #[.agg #[.int .u8 10, .int .i64 a, .int .i64 b, .int .i64 c, .int .i64 d]] w fun e w' =>
      e = .returned (.bool (validB 10 a b c d)) ∧ Below w.heap.size w w' := by
  have ht : w.cell? ⟨0, 21, none⟩ = some (.int .i64 2) := hT 10 (by decide)
  have hlt := hT.lt
  have hz : zerosB 10 a b c d = (decide (c = 0) && decide (d = 0)) := by simp [zerosB, arity]
  clear hT
  have HZ := Lib.hid hz; clear hz
  have i0 : ∀ w, (Instr.index 98 (.agg #[.int .i64 a, .int .i64 b, .int .i64 c, .int .i64 d]) (.int .i64 0)).run Tryd.prog w = .ok (.int .i64 a) w := fun _ => by kernel_rfl
  have i1 : ∀ w, (Instr.index 98 (.agg #[.int .i64 a, .int .i64 b, .int .i64 c, .int .i64 d]) (.int .i64 1)).run Tryd.prog w = .ok (.int .i64 b) w := fun _ => by kernel_rfl
  have i2 : ∀ w, (Instr.index 98 (.agg #[.int .i64 a, .int .i64 b, .int .i64 c, .int .i64 d]) (.int .i64 2)).run Tryd.prog w = .ok (.int .i64 c) w := fun _ => by kernel_rfl
  have i3 : ∀ w, (Instr.index 98 (.agg #[.int .i64 a, .int .i64 b, .int .i64 c, .int .i64 d]) (.int .i64 3)).run Tryd.prog w = .ok (.int .i64 d) w := fun _ => by kernel_rfl
  go_enter Tryd.func47, Tryd.ntmps47
  go_wp2
  go_rounds 5

  all_goals (go_ret; refine ⟨ret_bool ?_, (Below.refl _ _).alloc (Nat.le_refl _) _⟩; unfold validB; rw [HZ.out]; go_tidy; clear HZ; refine Bool.eq_iff_iff.2 ?_; simp_all [shapeB, regB, numB, idxB, operB] <;> omega)

set_option maxRecDepth 100000 in
set_option maxHeartbeats 1000000 in
theorem op17 (a b c d : Int) (w : World) (hT : TableAt w) :
    Calls Tryd.prog 47 #[.agg #[.int .u8 17, .int .i64 a, .int .i64 b, .int .i64 c, .int .i64 d]] w fun e w' =>
      e = .returned (.bool (validB 17 a b c d)) ∧ Below w.heap.size w w' := by
  have ht : w.cell? ⟨0, 35, none⟩ = some (.int .i64 1) := hT 17 (by decide)
  have hlt := hT.lt
  have hz : zerosB 17 a b c d = (decide (b = 0) && decide (c = 0) && decide (d = 0)) := by simp [zerosB, arity, Bool.and_assoc]
  clear hT
  have HZ := Lib.hid hz; clear hz
  have i0 : ∀ w, (Instr.index 98 (.agg #[.int .i64 a, .int .i64 b, .int .i64 c, .int .i64 d]) (.int .i64 0)).run Tryd.prog w = .ok (.int .i64 a) w := fun _ => by kernel_rfl
  have i1 : ∀ w, (Instr.index 98 (.agg #[.int .i64 a, .int .i64 b, .int .i64 c, .int .i64 d]) (.int .i64 1)).run Tryd.prog w = .ok (.int .i64 b) w := fun _ => by kernel_rfl
  have i2 : ∀ w, (Instr.index 98 (.agg #[.int .i64 a, .int .i64 b, .int .i64 c, .int .i64 d]) (.int .i64 2)).run Tryd.prog w = .ok (.int .i64 c) w := fun _ => by kernel_rfl
  have i3 : ∀ w, (Instr.index 98 (.agg #[.int .i64 a, .int .i64 b, .int .i64 c, .int .i64 d]) (.int .i64 3)).run Tryd.prog w = .ok (.int .i64 d) w := fun _ => by kernel_rfl
  go_enter Tryd.func47, Tryd.ntmps47
  go_wp2
  go_rounds 5

  all_goals (go_ret; refine ⟨ret_bool ?_, (Below.refl _ _).alloc (Nat.le_refl _) _⟩; unfold validB; rw [HZ.out]; go_tidy; clear HZ; refine Bool.eq_iff_iff.2 ?_; simp_all [shapeB, regB, numB, idxB, operB] <;> omega)

set_option maxRecDepth 100000 in
set_option maxHeartbeats 1000000 in
theorem op24 (a b c d : Int) (w : World) (hT : TableAt w) :
    Calls Tryd.prog 47 #[.agg #[.int .u8 24, .int .i64 a, .int .i64 b, .int .i64 c, .int .i64 d]] w fun e w' =>
      e = .returned (.bool (validB 24 a b c d)) ∧ Below w.heap.size w w' := by
  have ht : w.cell? ⟨0, 49, none⟩ = some (.int .i64 2) := hT 24 (by decide)
  have hlt := hT.lt
  have hz : zerosB 24 a b c d = (decide (c = 0) && decide (d = 0)) := by simp [zerosB, arity]
  clear hT
  have HZ := Lib.hid hz; clear hz
  have i0 : ∀ w, (Instr.index 98 (.agg #[.int .i64 a, .int .i64 b, .int .i64 c, .int .i64 d]) (.int .i64 0)).run Tryd.prog w = .ok (.int .i64 a) w := fun _ => by kernel_rfl
  have i1 : ∀ w, (Instr.index 98 (.agg #[.int .i64 a, .int .i64 b, .int .i64 c, .int .i64 d]) (.int .i64 1)).run Tryd.prog w = .ok (.int .i64 b) w := fun _ => by kernel_rfl
  have i2 : ∀ w, (Instr.index 98 (.agg #[.int .i64 a, .int .i64 b, .int .i64 c, .int .i64 d]) (.int .i64 2)).run Tryd.prog w = .ok (.int .i64 c) w := fun _ => by kernel_rfl
  have i3 : ∀ w, (Instr.index 98 (.agg #[.int .i64 a, .int .i64 b, .int .i64 c, .int .i64 d]) (.int .i64 3)).run Tryd.prog w = .ok (.int .i64 d) w := fun _ => by kernel_rfl
  go_enter Tryd.func47, Tryd.ntmps47
  go_wp2
  go_rounds 5

  all_goals (go_ret; refine ⟨ret_bool ?_, (Below.refl _ _).alloc (Nat.le_refl _) _⟩; unfold validB; rw [HZ.out]; go_tidy; clear HZ; refine Bool.eq_iff_iff.2 ?_; simp_all [shapeB, regB, numB, idxB, operB] <;> omega)

set_option maxRecDepth 100000 in
set_option maxHeartbeats 1000000 in
theorem op31 (a b c d : Int) (w : World) (hT : TableAt w) :
    Calls Tryd.prog 47 #[.agg #[.int .u8 31, .int .i64 a, .int .i64 b, .int .i64 c, .int .i64 d]] w fun e w' =>
      e = .returned (.bool (validB 31 a b c d)) ∧ Below w.heap.size w w' := by
  have ht : w.cell? ⟨0, 63, none⟩ = some (.int .i64 1) := hT 31 (by decide)
  have hlt := hT.lt
  have hz : zerosB 31 a b c d = (decide (b = 0) && decide (c = 0) && decide (d = 0)) := by simp [zerosB, arity, Bool.and_assoc]
  clear hT
  have HZ := Lib.hid hz; clear hz
  have i0 : ∀ w, (Instr.index 98 (.agg #[.int .i64 a, .int .i64 b, .int .i64 c, .int .i64 d]) (.int .i64 0)).run Tryd.prog w = .ok (.int .i64 a) w := fun _ => by kernel_rfl
  have i1 : ∀ w, (Instr.index 98 (.agg #[.int .i64 a, .int .i64 b, .int .i64 c, .int .i64 d]) (.int .i64 1)).run Tryd.prog w = .ok (.int .i64 b) w := fun _ => by kernel_rfl
  have i2 : ∀ w, (Instr.index 98 (.agg #[.int .i64 a, .int .i64 b, .int .i64 c, .int .i64 d]) (.int .i64 2)).run Tryd.prog w = .ok (.int .i64 c) w := fun _ => by kernel_rfl
  have i3 : ∀ w, (Instr.index 98 (.agg #[.int .i64 a, .int .i64 b, .int .i64 c, .int .i64 d]) (.int .i64 3)).run Tryd.prog w = .ok (.int .i64 d) w := fun _ => by kernel_rfl
  go_enter Tryd.func47, Tryd.ntmps47
  go_wp2
  go_rounds 5

  all_goals (go_ret; refine ⟨ret_bool ?_, (Below.refl _ _).alloc (Nat.le_refl _) _⟩; unfold validB; rw [HZ.out]; go_tidy; clear HZ; refine Bool.eq_iff_iff.2 ?_; simp_all [shapeB, regB, numB, idxB, operB] <;> omega)

end Valid
end Go.Proofs.YtfpcblgkcbfdoaaDoor
