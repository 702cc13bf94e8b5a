/- Several texts in one: ValidA ValidB ValidC ValidD. -/
import Derived.Test.YtbijhlgdilkopaaGreatDoorIsT
import Derived.Handy
set_option linter.unusedVariables false
set_option linter.unusedSimpArgs false
/- The walk of isa.Valid: one theorem an opcode, a part (written by gen_valid.py). -/
set_option maxRecDepth 100000
set_option maxHeartbeats 8000000
set_option linter.unusedSimpArgs false
namespace Go.Proofs.YtbijhlgdilkopaaGreatDoor
open Go.RowKit Bk

namespace Valid

theorem op0 (a b c d : Int) (w : World) (hT : TableAt w) :
    VC 0 a b c d w := by
  unfold VC
  have ht : w.cell? ⟨0, 1, none⟩ = some (.int .i64 0) := hT 0 (by decide)
  have hlt := hT.lt
  have hz : zerosB 0 a b c d = (decide (a = 0) && decide (b = 0) && decide (c = 0) && decide (d = 0)) := by simp [zerosB, arity, Bool.and_assoc]
  clear hT
  have HZ := Lib.hid hz; clear hz
  obtain ⟨i0, i1, i2, i3⟩ := ix4 a b c d
  go_enter Tryz.func69, Tryz.ntmps69
  go_wp2
  go_rounds 5

  all_goals (go_ret; refine ⟨ret_bool ?_, (Below.refl _ _).alloc (Nat.le_refl _) _⟩; unfold validB; rw [HZ.out]; go_tidy; clear HZ; refine Bool.eq_iff_iff.2 ?_; simp_all [shapeB, regB, numB, idxB, operB] <;> omega)

theorem op7 (a b c d : Int) (w : World) (hT : TableAt w) :
    VC 7 a b c d w := by
  unfold VC
  have ht : w.cell? ⟨0, 15, none⟩ = some (.int .i64 2) := hT 7 (by decide)
  have hlt := hT.lt
  have hz : zerosB 7 a b c d = (decide (c = 0) && decide (d = 0)) := by simp [zerosB, arity]
  clear hT
  have HZ := Lib.hid hz; clear hz
  obtain ⟨i0, i1, i2, i3⟩ := ix4 a b c d
  go_enter Tryz.func69, Tryz.ntmps69
  go_wp2
  go_rounds 5

  all_goals (go_ret; refine ⟨ret_bool ?_, (Below.refl _ _).alloc (Nat.le_refl _) _⟩; unfold validB; rw [HZ.out]; go_tidy; clear HZ; refine Bool.eq_iff_iff.2 ?_; simp_all [shapeB, regB, numB, idxB, operB] <;> omega)

theorem op14 (a b c d : Int) (w : World) (hT : TableAt w) :
    VC 14 a b c d w := by
  unfold VC
  have ht : w.cell? ⟨0, 29, none⟩ = some (.int .i64 2) := hT 14 (by decide)
  have hlt := hT.lt
  have hz : zerosB 14 a b c d = (decide (c = 0) && decide (d = 0)) := by simp [zerosB, arity]
  clear hT
  have HZ := Lib.hid hz; clear hz
  obtain ⟨i0, i1, i2, i3⟩ := ix4 a b c d
  go_enter Tryz.func69, Tryz.ntmps69
  go_wp2
  go_rounds 5

  all_goals (go_ret; refine ⟨ret_bool ?_, (Below.refl _ _).alloc (Nat.le_refl _) _⟩; unfold validB; rw [HZ.out]; go_tidy; clear HZ; refine Bool.eq_iff_iff.2 ?_; simp_all [shapeB, regB, numB, idxB, operB] <;> omega)

theorem op21 (a b c d : Int) (w : World) (hT : TableAt w) :
    VC 21 a b c d w := by
  unfold VC
  have ht : w.cell? ⟨0, 43, none⟩ = some (.int .i64 2) := hT 21 (by decide)
  have hlt := hT.lt
  have hz : zerosB 21 a b c d = (decide (c = 0) && decide (d = 0)) := by simp [zerosB, arity]
  clear hT
  have HZ := Lib.hid hz; clear hz
  obtain ⟨i0, i1, i2, i3⟩ := ix4 a b c d
  go_enter Tryz.func69, Tryz.ntmps69
  go_wp2
  go_rounds 5

  all_goals (go_ret; refine ⟨ret_bool ?_, (Below.refl _ _).alloc (Nat.le_refl _) _⟩; unfold validB; rw [HZ.out]; go_tidy; clear HZ; refine Bool.eq_iff_iff.2 ?_; simp_all [shapeB, regB, numB, idxB, operB] <;> omega)

theorem op28 (a b c d : Int) (w : World) (hT : TableAt w) :
    VC 28 a b c d w := by
  unfold VC
  have ht : w.cell? ⟨0, 57, none⟩ = some (.int .i64 2) := hT 28 (by decide)
  have hlt := hT.lt
  have hz : zerosB 28 a b c d = (decide (c = 0) && decide (d = 0)) := by simp [zerosB, arity]
  clear hT
  have HZ := Lib.hid hz; clear hz
  obtain ⟨i0, i1, i2, i3⟩ := ix4 a b c d
  go_enter Tryz.func69, Tryz.ntmps69
  go_wp2
  go_rounds 5

  all_goals (go_ret; refine ⟨ret_bool ?_, (Below.refl _ _).alloc (Nat.le_refl _) _⟩; unfold validB; rw [HZ.out]; go_tidy; clear HZ; refine Bool.eq_iff_iff.2 ?_; simp_all [shapeB, regB, numB, idxB, operB] <;> omega)

end Valid
end Go.Proofs.YtbijhlgdilkopaaGreatDoor

/- The walk of isa.Valid: one theorem an opcode, a part (written by gen_valid.py). -/
set_option maxRecDepth 100000
set_option maxHeartbeats 8000000
set_option linter.unusedSimpArgs false
namespace Go.Proofs.YtbijhlgdilkopaaGreatDoor
open Go.RowKit Bk

namespace Valid

theorem op1 (a b c d : Int) (w : World) (hT : TableAt w) :
    VC 1 a b c d w := by
  unfold VC
  have ht : w.cell? ⟨0, 3, none⟩ = some (.int .i64 2) := hT 1 (by decide)
  have hlt := hT.lt
  have hz : zerosB 1 a b c d = (decide (c = 0) && decide (d = 0)) := by simp [zerosB, arity]
  clear hT
  have HZ := Lib.hid hz; clear hz
  obtain ⟨i0, i1, i2, i3⟩ := ix4 a b c d
  go_enter Tryz.func69, Tryz.ntmps69
  go_wp2
  go_rounds 5

  all_goals (go_ret; refine ⟨ret_bool ?_, (Below.refl _ _).alloc (Nat.le_refl _) _⟩; unfold validB; rw [HZ.out]; go_tidy; clear HZ; refine Bool.eq_iff_iff.2 ?_; simp_all [shapeB, regB, numB, idxB, operB] <;> omega)

theorem op8 (a b c d : Int) (w : World) (hT : TableAt w) :
    VC 8 a b c d w := by
  unfold VC
  have ht : w.cell? ⟨0, 17, none⟩ = some (.int .i64 1) := hT 8 (by decide)
  have hlt := hT.lt
  have hz : zerosB 8 a b c d = (decide (b = 0) && decide (c = 0) && decide (d = 0)) := by simp [zerosB, arity, Bool.and_assoc]
  clear hT
  have HZ := Lib.hid hz; clear hz
  obtain ⟨i0, i1, i2, i3⟩ := ix4 a b c d
  go_enter Tryz.func69, Tryz.ntmps69
  go_wp2
  go_rounds 5

  all_goals (go_ret; refine ⟨ret_bool ?_, (Below.refl _ _).alloc (Nat.le_refl _) _⟩; unfold validB; rw [HZ.out]; go_tidy; clear HZ; refine Bool.eq_iff_iff.2 ?_; simp_all [shapeB, regB, numB, idxB, operB] <;> omega)

theorem op15 (a b c d : Int) (w : World) (hT : TableAt w) :
    VC 15 a b c d w := by
  unfold VC
  have ht : w.cell? ⟨0, 31, none⟩ = some (.int .i64 2) := hT 15 (by decide)
  have hlt := hT.lt
  have hz : zerosB 15 a b c d = (decide (c = 0) && decide (d = 0)) := by simp [zerosB, arity]
  clear hT
  have HZ := Lib.hid hz; clear hz
  obtain ⟨i0, i1, i2, i3⟩ := ix4 a b c d
  go_enter Tryz.func69, Tryz.ntmps69
  go_wp2
  go_rounds 5

  all_goals (go_ret; refine ⟨ret_bool ?_, (Below.refl _ _).alloc (Nat.le_refl _) _⟩; unfold validB; rw [HZ.out]; go_tidy; clear HZ; refine Bool.eq_iff_iff.2 ?_; simp_all [shapeB, regB, numB, idxB, operB] <;> omega)

theorem op22 (a b c d : Int) (w : World) (hT : TableAt w) :
    VC 22 a b c d w := by
  unfold VC
  have ht : w.cell? ⟨0, 45, none⟩ = some (.int .i64 1) := hT 22 (by decide)
  have hlt := hT.lt
  have hz : zerosB 22 a b c d = (decide (b = 0) && decide (c = 0) && decide (d = 0)) := by simp [zerosB, arity, Bool.and_assoc]
  clear hT
  have HZ := Lib.hid hz; clear hz
  obtain ⟨i0, i1, i2, i3⟩ := ix4 a b c d
  go_enter Tryz.func69, Tryz.ntmps69
  go_wp2
  go_rounds 5

  all_goals (go_ret; refine ⟨ret_bool ?_, (Below.refl _ _).alloc (Nat.le_refl _) _⟩; unfold validB; rw [HZ.out]; go_tidy; clear HZ; refine Bool.eq_iff_iff.2 ?_; simp_all [shapeB, regB, numB, idxB, operB] <;> omega)

theorem op29 (a b c d : Int) (w : World) (hT : TableAt w) :
    VC 29 a b c d w := by
  unfold VC
  have ht : w.cell? ⟨0, 59, none⟩ = some (.int .i64 2) := hT 29 (by decide)
  have hlt := hT.lt
  have hz : zerosB 29 a b c d = (decide (c = 0) && decide (d = 0)) := by simp [zerosB, arity]
  clear hT
  have HZ := Lib.hid hz; clear hz
  obtain ⟨i0, i1, i2, i3⟩ := ix4 a b c d
  go_enter Tryz.func69, Tryz.ntmps69
  go_wp2
  go_rounds 5

  all_goals (go_ret; refine ⟨ret_bool ?_, (Below.refl _ _).alloc (Nat.le_refl _) _⟩; unfold validB; rw [HZ.out]; go_tidy; clear HZ; refine Bool.eq_iff_iff.2 ?_; simp_all [shapeB, regB, numB, idxB, operB] <;> omega)

end Valid
end Go.Proofs.YtbijhlgdilkopaaGreatDoor

/- The walk of isa.Valid: one theorem an opcode, a part (written by gen_valid.py). -/
set_option maxRecDepth 100000
set_option maxHeartbeats 8000000
set_option linter.unusedSimpArgs false
namespace Go.Proofs.YtbijhlgdilkopaaGreatDoor
open Go.RowKit Bk

namespace Valid

theorem op2 (a b c d : Int) (w : World) (hT : TableAt w) :
    VC 2 a b c d w := by
  unfold VC
  have ht : w.cell? ⟨0, 5, none⟩ = some (.int .i64 2) := hT 2 (by decide)
  have hlt := hT.lt
  have hz : zerosB 2 a b c d = (decide (c = 0) && decide (d = 0)) := by simp [zerosB, arity]
  clear hT
  have HZ := Lib.hid hz; clear hz
  obtain ⟨i0, i1, i2, i3⟩ := ix4 a b c d
  go_enter Tryz.func69, Tryz.ntmps69
  go_wp2
  go_rounds 5

  all_goals (go_ret; refine ⟨ret_bool ?_, (Below.refl _ _).alloc (Nat.le_refl _) _⟩; unfold validB; rw [HZ.out]; go_tidy; clear HZ; refine Bool.eq_iff_iff.2 ?_; simp_all [shapeB, regB, numB, idxB, operB] <;> omega)

theorem op9 (a b c d : Int) (w : World) (hT : TableAt w) :
    VC 9 a b c d w := by
  unfold VC
  have ht : w.cell? ⟨0, 19, none⟩ = some (.int .i64 4) := hT 9 (by decide)
  have hlt := hT.lt
  have hz : zerosB 9 a b c d = (true) := by simp [zerosB, arity]
  clear hT
  have HZ := Lib.hid hz; clear hz
  obtain ⟨i0, i1, i2, i3⟩ := ix4 a b c d
  go_enter Tryz.func69, Tryz.ntmps69
  go_wp2
  go_rounds 5

  all_goals (go_ret; refine ⟨ret_bool ?_, (Below.refl _ _).alloc (Nat.le_refl _) _⟩; unfold validB; rw [HZ.out]; go_tidy; clear HZ; refine Bool.eq_iff_iff.2 ?_; simp_all [shapeB, regB, numB, idxB, operB] <;> omega)

theorem op16 (a b c d : Int) (w : World) (hT : TableAt w) :
    VC 16 a b c d w := by
  unfold VC
  have ht : w.cell? ⟨0, 33, none⟩ = some (.int .i64 2) := hT 16 (by decide)
  have hlt := hT.lt
  have hz : zerosB 16 a b c d = (decide (c = 0) && decide (d = 0)) := by simp [zerosB, arity]
  clear hT
  have HZ := Lib.hid hz; clear hz
  obtain ⟨i0, i1, i2, i3⟩ := ix4 a b c d
  go_enter Tryz.func69, Tryz.ntmps69
  go_wp2
  go_rounds 5

  all_goals (go_ret; refine ⟨ret_bool ?_, (Below.refl _ _).alloc (Nat.le_refl _) _⟩; unfold validB; rw [HZ.out]; go_tidy; clear HZ; refine Bool.eq_iff_iff.2 ?_; simp_all [shapeB, regB, numB, idxB, operB] <;> omega)

theorem op23 (a b c d : Int) (w : World) (hT : TableAt w) :
    VC 23 a b c d w := by
  unfold VC
  have ht : w.cell? ⟨0, 47, none⟩ = some (.int .i64 2) := hT 23 (by decide)
  have hlt := hT.lt
  have hz : zerosB 23 a b c d = (decide (c = 0) && decide (d = 0)) := by simp [zerosB, arity]
  clear hT
  have HZ := Lib.hid hz; clear hz
  obtain ⟨i0, i1, i2, i3⟩ := ix4 a b c d
  go_enter Tryz.func69, Tryz.ntmps69
  go_wp2
  go_rounds 5

  all_goals (go_ret; refine ⟨ret_bool ?_, (Below.refl _ _).alloc (Nat.le_refl _) _⟩; unfold validB; rw [HZ.out]; go_tidy; clear HZ; refine Bool.eq_iff_iff.2 ?_; simp_all [shapeB, regB, numB, idxB, operB] <;> omega)

theorem op30 (a b c d : Int) (w : World) (hT : TableAt w) :
    VC 30 a b c d w := by
  unfold VC
  have ht : w.cell? ⟨0, 61, none⟩ = some (.int .i64 1) := hT 30 (by decide)
  have hlt := hT.lt
  have hz : zerosB 30 a b c d = (decide (b = 0) && decide (c = 0) && decide (d = 0)) := by simp [zerosB, arity, Bool.and_assoc]
  clear hT
  have HZ := Lib.hid hz; clear hz
  obtain ⟨i0, i1, i2, i3⟩ := ix4 a b c d
  go_enter Tryz.func69, Tryz.ntmps69
  go_wp2
  go_rounds 5

  all_goals (go_ret; refine ⟨ret_bool ?_, (Below.refl _ _).alloc (Nat.le_refl _) _⟩; unfold validB; rw [HZ.out]; go_tidy; clear HZ; refine Bool.eq_iff_iff.2 ?_; simp_all [shapeB, regB, numB, idxB, operB] <;> omega)

end Valid
end Go.Proofs.YtbijhlgdilkopaaGreatDoor

/- The walk of isa.Valid: one theorem an opcode, a part (written by gen_valid.py). -/
set_option maxRecDepth 100000
set_option maxHeartbeats 8000000
set_option linter.unusedSimpArgs false
namespace Go.Proofs.YtbijhlgdilkopaaGreatDoor
open Go.RowKit Bk

namespace Valid

theorem op3 (a b c d : Int) (w : World) (hT : TableAt w) :
    VC 3 a b c d w := by
  unfold VC
  have ht : w.cell? ⟨0, 7, none⟩ = some (.int .i64 2) := hT 3 (by decide)
  have hlt := hT.lt
  have hz : zerosB 3 a b c d = (decide (c = 0) && decide (d = 0)) := by simp [zerosB, arity]
  clear hT
  have HZ := Lib.hid hz; clear hz
  obtain ⟨i0, i1, i2, i3⟩ := ix4 a b c d
  go_enter Tryz.func69, Tryz.ntmps69
  go_wp2
  go_rounds 5

  all_goals (go_ret; refine ⟨ret_bool ?_, (Below.refl _ _).alloc (Nat.le_refl _) _⟩; unfold validB; rw [HZ.out]; go_tidy; clear HZ; refine Bool.eq_iff_iff.2 ?_; simp_all [shapeB, regB, numB, idxB, operB] <;> omega)

theorem op10 (a b c d : Int) (w : World) (hT : TableAt w) :
    VC 10 a b c d w := by
  unfold VC
  have ht : w.cell? ⟨0, 21, none⟩ = some (.int .i64 2) := hT 10 (by decide)
  have hlt := hT.lt
  have hz : zerosB 10 a b c d = (decide (c = 0) && decide (d = 0)) := by simp [zerosB, arity]
  clear hT
  have HZ := Lib.hid hz; clear hz
  obtain ⟨i0, i1, i2, i3⟩ := ix4 a b c d
  go_enter Tryz.func69, Tryz.ntmps69
  go_wp2
  go_rounds 5

  all_goals (go_ret; refine ⟨ret_bool ?_, (Below.refl _ _).alloc (Nat.le_refl _) _⟩; unfold validB; rw [HZ.out]; go_tidy; clear HZ; refine Bool.eq_iff_iff.2 ?_; simp_all [shapeB, regB, numB, idxB, operB] <;> omega)

theorem op17 (a b c d : Int) (w : World) (hT : TableAt w) :
    VC 17 a b c d w := by
  unfold VC
  have ht : w.cell? ⟨0, 35, none⟩ = some (.int .i64 1) := hT 17 (by decide)
  have hlt := hT.lt
  have hz : zerosB 17 a b c d = (decide (b = 0) && decide (c = 0) && decide (d = 0)) := by simp [zerosB, arity, Bool.and_assoc]
  clear hT
  have HZ := Lib.hid hz; clear hz
  obtain ⟨i0, i1, i2, i3⟩ := ix4 a b c d
  go_enter Tryz.func69, Tryz.ntmps69
  go_wp2
  go_rounds 5

  all_goals (go_ret; refine ⟨ret_bool ?_, (Below.refl _ _).alloc (Nat.le_refl _) _⟩; unfold validB; rw [HZ.out]; go_tidy; clear HZ; refine Bool.eq_iff_iff.2 ?_; simp_all [shapeB, regB, numB, idxB, operB] <;> omega)

theorem op24 (a b c d : Int) (w : World) (hT : TableAt w) :
    VC 24 a b c d w := by
  unfold VC
  have ht : w.cell? ⟨0, 49, none⟩ = some (.int .i64 2) := hT 24 (by decide)
  have hlt := hT.lt
  have hz : zerosB 24 a b c d = (decide (c = 0) && decide (d = 0)) := by simp [zerosB, arity]
  clear hT
  have HZ := Lib.hid hz; clear hz
  obtain ⟨i0, i1, i2, i3⟩ := ix4 a b c d
  go_enter Tryz.func69, Tryz.ntmps69
  go_wp2
  go_rounds 5

  all_goals (go_ret; refine ⟨ret_bool ?_, (Below.refl _ _).alloc (Nat.le_refl _) _⟩; unfold validB; rw [HZ.out]; go_tidy; clear HZ; refine Bool.eq_iff_iff.2 ?_; simp_all [shapeB, regB, numB, idxB, operB] <;> omega)

theorem op31 (a b c d : Int) (w : World) (hT : TableAt w) :
    VC 31 a b c d w := by
  unfold VC
  have ht : w.cell? ⟨0, 63, none⟩ = some (.int .i64 1) := hT 31 (by decide)
  have hlt := hT.lt
  have hz : zerosB 31 a b c d = (decide (b = 0) && decide (c = 0) && decide (d = 0)) := by simp [zerosB, arity, Bool.and_assoc]
  clear hT
  have HZ := Lib.hid hz; clear hz
  obtain ⟨i0, i1, i2, i3⟩ := ix4 a b c d
  go_enter Tryz.func69, Tryz.ntmps69
  go_wp2
  go_rounds 5

  all_goals (go_ret; refine ⟨ret_bool ?_, (Below.refl _ _).alloc (Nat.le_refl _) _⟩; unfold validB; rw [HZ.out]; go_tidy; clear HZ; refine Bool.eq_iff_iff.2 ?_; simp_all [shapeB, regB, numB, idxB, operB] <;> omega)

end Valid
end Go.Proofs.YtbijhlgdilkopaaGreatDoor
