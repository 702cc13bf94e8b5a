/- Several texts in one: ValidE ValidF ValidG Valid. -/
import Derived.Test.YtbijhlgdilkopaaGreatDoorIsT
import Derived.Handy
import Derived.Test.YtbijhlgdilkopaaGreatDoorVaA
set_option linter.unusedVariables false
set_option linter.unusedSimpArgs false
/- The walk of isa.Valid: one theorem an opcode, a part (written by gen_valid.py). -/
set_option maxRecDepth 100000
set_option maxHeartbeats 8000000
set_option linter.unusedSimpArgs false
namespace Go.Proofs.YtbijhlgdilkopaaGreatDoor
open Go.RowKit Bk

namespace Valid

theorem op4 (a b c d : Int) (w : World) (hT : TableAt w) :
    VC 4 a b c d w := by
  unfold VC
  have ht : w.cell? ⟨0, 9, none⟩ = some (.int .i64 2) := hT 4 (by decide)
  have hlt := hT.lt
  have hz : zerosB 4 a b c d = (decide (c = 0) && decide (d = 0)) := by simp [zerosB, arity]
  clear hT
  have HZ := Lib.hid hz; clear hz
  obtain ⟨i0, i1, i2, i3⟩ := ix4 a b c d
  go_enter Tryz.func69, Tryz.ntmps69
  go_wp2
  go_rounds 5

  all_goals (go_ret; refine ⟨ret_bool ?_, (Below.refl _ _).alloc (Nat.le_refl _) _⟩; unfold validB; rw [HZ.out]; go_tidy; clear HZ; refine Bool.eq_iff_iff.2 ?_; simp_all [shapeB, regB, numB, idxB, operB] <;> omega)

theorem op11 (a b c d : Int) (w : World) (hT : TableAt w) :
    VC 11 a b c d w := by
  unfold VC
  have ht : w.cell? ⟨0, 23, none⟩ = some (.int .i64 4) := hT 11 (by decide)
  have hlt := hT.lt
  have hz : zerosB 11 a b c d = (true) := by simp [zerosB, arity]
  clear hT
  have HZ := Lib.hid hz; clear hz
  obtain ⟨i0, i1, i2, i3⟩ := ix4 a b c d
  go_enter Tryz.func69, Tryz.ntmps69
  go_wp2
  go_rounds 5

  all_goals (go_ret; refine ⟨ret_bool ?_, (Below.refl _ _).alloc (Nat.le_refl _) _⟩; unfold validB; rw [HZ.out]; go_tidy; clear HZ; refine Bool.eq_iff_iff.2 ?_; simp_all [shapeB, regB, numB, idxB, operB] <;> omega)

theorem op18 (a b c d : Int) (w : World) (hT : TableAt w) :
    VC 18 a b c d w := by
  unfold VC
  have ht : w.cell? ⟨0, 37, none⟩ = some (.int .i64 1) := hT 18 (by decide)
  have hlt := hT.lt
  have hz : zerosB 18 a b c d = (decide (b = 0) && decide (c = 0) && decide (d = 0)) := by simp [zerosB, arity, Bool.and_assoc]
  clear hT
  have HZ := Lib.hid hz; clear hz
  obtain ⟨i0, i1, i2, i3⟩ := ix4 a b c d
  go_enter Tryz.func69, Tryz.ntmps69
  go_wp2
  go_rounds 5

  all_goals (go_ret; refine ⟨ret_bool ?_, (Below.refl _ _).alloc (Nat.le_refl _) _⟩; unfold validB; rw [HZ.out]; go_tidy; clear HZ; refine Bool.eq_iff_iff.2 ?_; simp_all [shapeB, regB, numB, idxB, operB] <;> omega)

theorem op25 (a b c d : Int) (w : World) (hT : TableAt w) :
    VC 25 a b c d w := by
  unfold VC
  have ht : w.cell? ⟨0, 51, none⟩ = some (.int .i64 1) := hT 25 (by decide)
  have hlt := hT.lt
  have hz : zerosB 25 a b c d = (decide (b = 0) && decide (c = 0) && decide (d = 0)) := by simp [zerosB, arity, Bool.and_assoc]
  clear hT
  have HZ := Lib.hid hz; clear hz
  obtain ⟨i0, i1, i2, i3⟩ := ix4 a b c d
  go_enter Tryz.func69, Tryz.ntmps69
  go_wp2
  go_rounds 5

  all_goals (go_ret; refine ⟨ret_bool ?_, (Below.refl _ _).alloc (Nat.le_refl _) _⟩; unfold validB; rw [HZ.out]; go_tidy; clear HZ; refine Bool.eq_iff_iff.2 ?_; simp_all [shapeB, regB, numB, idxB, operB] <;> omega)

theorem op32 (a b c d : Int) (w : World) (hT : TableAt w) :
    VC 32 a b c d w := by
  unfold VC
  have ht : w.cell? ⟨0, 65, none⟩ = some (.int .i64 1) := hT 32 (by decide)
  have hlt := hT.lt
  have hz : zerosB 32 a b c d = (decide (b = 0) && decide (c = 0) && decide (d = 0)) := by simp [zerosB, arity, Bool.and_assoc]
  clear hT
  have HZ := Lib.hid hz; clear hz
  obtain ⟨i0, i1, i2, i3⟩ := ix4 a b c d
  go_enter Tryz.func69, Tryz.ntmps69
  go_wp2
  go_rounds 5

  all_goals (go_ret; refine ⟨ret_bool ?_, (Below.refl _ _).alloc (Nat.le_refl _) _⟩; unfold validB; rw [HZ.out]; go_tidy; clear HZ; refine Bool.eq_iff_iff.2 ?_; simp_all [shapeB, regB, numB, idxB, operB] <;> omega)

end Valid
end Go.Proofs.YtbijhlgdilkopaaGreatDoor

/- The walk of isa.Valid: one theorem an opcode, a part (written by gen_valid.py). -/
set_option maxRecDepth 100000
set_option maxHeartbeats 8000000
set_option linter.unusedSimpArgs false
namespace Go.Proofs.YtbijhlgdilkopaaGreatDoor
open Go.RowKit Bk

namespace Valid

theorem op5 (a b c d : Int) (w : World) (hT : TableAt w) :
    VC 5 a b c d w := by
  unfold VC
  have ht : w.cell? ⟨0, 11, none⟩ = some (.int .i64 2) := hT 5 (by decide)
  have hlt := hT.lt
  have hz : zerosB 5 a b c d = (decide (c = 0) && decide (d = 0)) := by simp [zerosB, arity]
  clear hT
  have HZ := Lib.hid hz; clear hz
  obtain ⟨i0, i1, i2, i3⟩ := ix4 a b c d
  go_enter Tryz.func69, Tryz.ntmps69
  go_wp2
  go_rounds 5

  all_goals (go_ret; refine ⟨ret_bool ?_, (Below.refl _ _).alloc (Nat.le_refl _) _⟩; unfold validB; rw [HZ.out]; go_tidy; clear HZ; refine Bool.eq_iff_iff.2 ?_; simp_all [shapeB, regB, numB, idxB, operB] <;> omega)

theorem op12 (a b c d : Int) (w : World) (hT : TableAt w) :
    VC 12 a b c d w := by
  unfold VC
  have ht : w.cell? ⟨0, 25, none⟩ = some (.int .i64 2) := hT 12 (by decide)
  have hlt := hT.lt
  have hz : zerosB 12 a b c d = (decide (c = 0) && decide (d = 0)) := by simp [zerosB, arity]
  clear hT
  have HZ := Lib.hid hz; clear hz
  obtain ⟨i0, i1, i2, i3⟩ := ix4 a b c d
  go_enter Tryz.func69, Tryz.ntmps69
  go_wp2
  go_rounds 5

  all_goals (go_ret; refine ⟨ret_bool ?_, (Below.refl _ _).alloc (Nat.le_refl _) _⟩; unfold validB; rw [HZ.out]; go_tidy; clear HZ; refine Bool.eq_iff_iff.2 ?_; simp_all [shapeB, regB, numB, idxB, operB] <;> omega)

theorem op19 (a b c d : Int) (w : World) (hT : TableAt w) :
    VC 19 a b c d w := by
  unfold VC
  have ht : w.cell? ⟨0, 39, none⟩ = some (.int .i64 1) := hT 19 (by decide)
  have hlt := hT.lt
  have hz : zerosB 19 a b c d = (decide (b = 0) && decide (c = 0) && decide (d = 0)) := by simp [zerosB, arity, Bool.and_assoc]
  clear hT
  have HZ := Lib.hid hz; clear hz
  obtain ⟨i0, i1, i2, i3⟩ := ix4 a b c d
  go_enter Tryz.func69, Tryz.ntmps69
  go_wp2
  go_rounds 5

  all_goals (go_ret; refine ⟨ret_bool ?_, (Below.refl _ _).alloc (Nat.le_refl _) _⟩; unfold validB; rw [HZ.out]; go_tidy; clear HZ; refine Bool.eq_iff_iff.2 ?_; simp_all [shapeB, regB, numB, idxB, operB] <;> omega)

theorem op26 (a b c d : Int) (w : World) (hT : TableAt w) :
    VC 26 a b c d w := by
  unfold VC
  have ht : w.cell? ⟨0, 53, none⟩ = some (.int .i64 2) := hT 26 (by decide)
  have hlt := hT.lt
  have hz : zerosB 26 a b c d = (decide (c = 0) && decide (d = 0)) := by simp [zerosB, arity]
  clear hT
  have HZ := Lib.hid hz; clear hz
  obtain ⟨i0, i1, i2, i3⟩ := ix4 a b c d
  go_enter Tryz.func69, Tryz.ntmps69
  go_wp2
  go_rounds 5

  all_goals (go_ret; refine ⟨ret_bool ?_, (Below.refl _ _).alloc (Nat.le_refl _) _⟩; unfold validB; rw [HZ.out]; go_tidy; clear HZ; refine Bool.eq_iff_iff.2 ?_; simp_all [shapeB, regB, numB, idxB, operB] <;> omega)

theorem op33 (a b c d : Int) (w : World) (hT : TableAt w) :
    VC 33 a b c d w := by
  unfold VC
  have ht : w.cell? ⟨0, 67, none⟩ = some (.int .i64 1) := hT 33 (by decide)
  have hlt := hT.lt
  have hz : zerosB 33 a b c d = (decide (b = 0) && decide (c = 0) && decide (d = 0)) := by simp [zerosB, arity, Bool.and_assoc]
  clear hT
  have HZ := Lib.hid hz; clear hz
  obtain ⟨i0, i1, i2, i3⟩ := ix4 a b c d
  go_enter Tryz.func69, Tryz.ntmps69
  go_wp2
  go_rounds 5

  all_goals (go_ret; refine ⟨ret_bool ?_, (Below.refl _ _).alloc (Nat.le_refl _) _⟩; unfold validB; rw [HZ.out]; go_tidy; clear HZ; refine Bool.eq_iff_iff.2 ?_; simp_all [shapeB, regB, numB, idxB, operB] <;> omega)

end Valid
end Go.Proofs.YtbijhlgdilkopaaGreatDoor

/- The walk of isa.Valid: one theorem an opcode, a part (written by gen_valid.py). -/
set_option maxRecDepth 100000
set_option maxHeartbeats 8000000
set_option linter.unusedSimpArgs false
namespace Go.Proofs.YtbijhlgdilkopaaGreatDoor
open Go.RowKit Bk

namespace Valid

theorem op6 (a b c d : Int) (w : World) (hT : TableAt w) :
    VC 6 a b c d w := by
  unfold VC
  have ht : w.cell? ⟨0, 13, none⟩ = some (.int .i64 2) := hT 6 (by decide)
  have hlt := hT.lt
  have hz : zerosB 6 a b c d = (decide (c = 0) && decide (d = 0)) := by simp [zerosB, arity]
  clear hT
  have HZ := Lib.hid hz; clear hz
  obtain ⟨i0, i1, i2, i3⟩ := ix4 a b c d
  go_enter Tryz.func69, Tryz.ntmps69
  go_wp2
  go_rounds 5

  all_goals (go_ret; refine ⟨ret_bool ?_, (Below.refl _ _).alloc (Nat.le_refl _) _⟩; unfold validB; rw [HZ.out]; go_tidy; clear HZ; refine Bool.eq_iff_iff.2 ?_; simp_all [shapeB, regB, numB, idxB, operB] <;> omega)

theorem op13 (a b c d : Int) (w : World) (hT : TableAt w) :
    VC 13 a b c d w := by
  unfold VC
  have ht : w.cell? ⟨0, 27, none⟩ = some (.int .i64 2) := hT 13 (by decide)
  have hlt := hT.lt
  have hz : zerosB 13 a b c d = (decide (c = 0) && decide (d = 0)) := by simp [zerosB, arity]
  clear hT
  have HZ := Lib.hid hz; clear hz
  obtain ⟨i0, i1, i2, i3⟩ := ix4 a b c d
  go_enter Tryz.func69, Tryz.ntmps69
  go_wp2
  go_rounds 5

  all_goals (go_ret; refine ⟨ret_bool ?_, (Below.refl _ _).alloc (Nat.le_refl _) _⟩; unfold validB; rw [HZ.out]; go_tidy; clear HZ; refine Bool.eq_iff_iff.2 ?_; simp_all [shapeB, regB, numB, idxB, operB] <;> omega)

theorem op20 (a b c d : Int) (w : World) (hT : TableAt w) :
    VC 20 a b c d w := by
  unfold VC
  have ht : w.cell? ⟨0, 41, none⟩ = some (.int .i64 1) := hT 20 (by decide)
  have hlt := hT.lt
  have hz : zerosB 20 a b c d = (decide (b = 0) && decide (c = 0) && decide (d = 0)) := by simp [zerosB, arity, Bool.and_assoc]
  clear hT
  have HZ := Lib.hid hz; clear hz
  obtain ⟨i0, i1, i2, i3⟩ := ix4 a b c d
  go_enter Tryz.func69, Tryz.ntmps69
  go_wp2
  go_rounds 5

  all_goals (go_ret; refine ⟨ret_bool ?_, (Below.refl _ _).alloc (Nat.le_refl _) _⟩; unfold validB; rw [HZ.out]; go_tidy; clear HZ; refine Bool.eq_iff_iff.2 ?_; simp_all [shapeB, regB, numB, idxB, operB] <;> omega)

theorem op27 (a b c d : Int) (w : World) (hT : TableAt w) :
    VC 27 a b c d w := by
  unfold VC
  have ht : w.cell? ⟨0, 55, none⟩ = some (.int .i64 2) := hT 27 (by decide)
  have hlt := hT.lt
  have hz : zerosB 27 a b c d = (decide (c = 0) && decide (d = 0)) := by simp [zerosB, arity]
  clear hT
  have HZ := Lib.hid hz; clear hz
  obtain ⟨i0, i1, i2, i3⟩ := ix4 a b c d
  go_enter Tryz.func69, Tryz.ntmps69
  go_wp2
  go_rounds 5

  all_goals (go_ret; refine ⟨ret_bool ?_, (Below.refl _ _).alloc (Nat.le_refl _) _⟩; unfold validB; rw [HZ.out]; go_tidy; clear HZ; refine Bool.eq_iff_iff.2 ?_; simp_all [shapeB, regB, numB, idxB, operB] <;> omega)

theorem op34 (a b c d : Int) (w : World) (hT : TableAt w) :
    VC 34 a b c d w := by
  unfold VC
  have ht : w.cell? ⟨0, 69, none⟩ = some (.int .i64 0) := hT 34 (by decide)
  have hlt := hT.lt
  have hz : zerosB 34 a b c d = (decide (a = 0) && decide (b = 0) && decide (c = 0) && decide (d = 0)) := by simp [zerosB, arity, Bool.and_assoc]
  clear hT
  have HZ := Lib.hid hz; clear hz
  obtain ⟨i0, i1, i2, i3⟩ := ix4 a b c d
  go_enter Tryz.func69, Tryz.ntmps69
  go_wp2
  go_rounds 5

  all_goals (go_ret; refine ⟨ret_bool ?_, (Below.refl _ _).alloc (Nat.le_refl _) _⟩; unfold validB; rw [HZ.out]; go_tidy; clear HZ; refine Bool.eq_iff_iff.2 ?_; simp_all [shapeB, regB, numB, idxB, operB] <;> omega)

end Valid
end Go.Proofs.YtbijhlgdilkopaaGreatDoor

/- The walk of isa.Valid: the parts joined (written by gen_valid.py). -/
set_option maxRecDepth 100000
set_option maxHeartbeats 8000000
set_option linter.unusedSimpArgs false
namespace Go.Proofs.YtbijhlgdilkopaaGreatDoor
open Go.RowKit Bk


theorem c_Valid (op a b c d : Int) (h0 : 0 ≤ op) (w : World) (hT : TableAt w) :
    Calls Tryz.prog 69 #[.agg #[.int .u8 op, .int .i64 a, .int .i64 b, .int .i64 c, .int .i64 d]] w fun e w' =>
      e = .returned (.bool (validB op a b c d)) ∧ Below w.heap.size w w' := by
  by_cases hop : op < 35
  · rcases op_cases op h0 hop with rfl | rfl | rfl | rfl | rfl | rfl | rfl | rfl | rfl | rfl | rfl | rfl | rfl | rfl | rfl | rfl | rfl | rfl | rfl | rfl | rfl | rfl | rfl | rfl | rfl | rfl | rfl | rfl | rfl | rfl | rfl | rfl | rfl | rfl | rfl
    · exact Valid.op0 a b c d w hT
    · exact Valid.op1 a b c d w hT
    · exact Valid.op2 a b c d w hT
    · exact Valid.op3 a b c d w hT
    · exact Valid.op4 a b c d w hT
    · exact Valid.op5 a b c d w hT
    · exact Valid.op6 a b c d w hT
    · exact Valid.op7 a b c d w hT
    · exact Valid.op8 a b c d w hT
    · exact Valid.op9 a b c d w hT
    · exact Valid.op10 a b c d w hT
    · exact Valid.op11 a b c d w hT
    · exact Valid.op12 a b c d w hT
    · exact Valid.op13 a b c d w hT
    · exact Valid.op14 a b c d w hT
    · exact Valid.op15 a b c d w hT
    · exact Valid.op16 a b c d w hT
    · exact Valid.op17 a b c d w hT
    · exact Valid.op18 a b c d w hT
    · exact Valid.op19 a b c d w hT
    · exact Valid.op20 a b c d w hT
    · exact Valid.op21 a b c d w hT
    · exact Valid.op22 a b c d w hT
    · exact Valid.op23 a b c d w hT
    · exact Valid.op24 a b c d w hT
    · exact Valid.op25 a b c d w hT
    · exact Valid.op26 a b c d w hT
    · exact Valid.op27 a b c d w hT
    · exact Valid.op28 a b c d w hT
    · exact Valid.op29 a b c d w hT
    · exact Valid.op30 a b c d w hT
    · exact Valid.op31 a b c d w hT
    · exact Valid.op32 a b c d w hT
    · exact Valid.op33 a b c d w hT
    · exact Valid.op34 a b c d w hT
  · have h35 : 35 ≤ op := by omega
    clear hT hop
    go_enter Tryz.func69, Tryz.ntmps69
    go_wp2
    go_ret
    exact ⟨ret_bool (by unfold validB; simp; omega), (Below.refl _ _).alloc (Nat.le_refl _) _⟩

theorem c_Target' (op a b c d : Int) {t : Int} {ok : Bool} (h : targetP op a b = (t, ok)) (w : World) :
    Calls Tryz.prog 99 #[.agg #[.int .u8 op, .int .i64 a, .int .i64 b, .int .i64 c, .int .i64 d]] w fun e w' =>
      e = .returned (.tuple #[.int .i64 t, .bool ok]) ∧ Below w.heap.size w w' := by
  have := c_Target op a b c d w
  rw [h] at this; exact this
theorem c_Valid' (op a b c d : Int) {v : Bool} (h : validB op a b c d = v) (h0 : 0 ≤ op) (w : World) (hT : TableAt w) :
    Calls Tryz.prog 69 #[.agg #[.int .u8 op, .int .i64 a, .int .i64 b, .int .i64 c, .int .i64 d]] w fun e w' =>
      e = .returned (.bool v) ∧ Below w.heap.size w w' := by
  have := c_Valid op a b c d h0 w hT
  rw [h] at this; exact this
end Go.Proofs.YtbijhlgdilkopaaGreatDoor
