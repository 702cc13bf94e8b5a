/- Several texts in one: Isa Table. -/
import Derived.Test.YtbijhlgdilkopaaGreatDoorProg
import Derived.Test.YtbijhlgdilkopaaGreatDoorPa
import Derived.Test.YtbijhlgdilkopaaGreatDoorBa
import Derived.Handy
set_option linter.unusedVariables false
set_option linter.unusedSimpArgs false
/- The walks of package isa. -/
set_option linter.unusedVariables false
namespace Go.Proofs.YtbijhlgdilkopaaGreatDoor
open Go.RowKit Bk

theorem c_register (x : Int) (w : World) :
    Calls Tryz.prog 81 #[.int .i64 x] w fun e w' => e = .returned (.bool (regB x)) ∧ w = w' := by
  go_enter Tryz.func81, Tryz.ntmps81
  go_wp2
  all_goals (go_ret; exact ⟨ret_bool (by simp [regB]; omega), rfl⟩)

theorem c_number (x : Int) (w : World) :
    Calls Tryz.prog 83 #[.int .i64 x] w fun e w' => e = .returned (.bool (numB x)) ∧ w = w' := by
  go_enter Tryz.func83, Tryz.ntmps83
  go_wp2
  all_goals (go_ret; exact ⟨ret_bool (by simp [numB]; omega), rfl⟩)

theorem c_index (x : Int) (w : World) :
    Calls Tryz.prog 84 #[.int .i64 x] w fun e w' => e = .returned (.bool (idxB x)) ∧ w = w' := by
  go_enter Tryz.func84, Tryz.ntmps84
  go_wp2
  all_goals (go_ret; exact ⟨ret_bool (by simp [idxB]; omega), rfl⟩)

theorem c_operator (x : Int) (w : World) :
    Calls Tryz.prog 82 #[.int .i64 x] w fun e w' => e = .returned (.bool (operB x)) ∧ w = w' := by
  go_enter Tryz.func82, Tryz.ntmps82
  go_wp2
  all_goals (go_ret; exact ⟨ret_bool (by simp [operB]; omega), rfl⟩)

theorem c_IsJump (x : Int) (w : World) :
    Calls Tryz.prog 72 #[.int .u8 x] w fun e w' => e = .returned (.bool (jumpB x)) ∧ w = w' := by
  go_enter Tryz.func72, Tryz.ntmps72
  go_wp2
  all_goals (go_ret; exact ⟨ret_bool (by simp_all [jumpB]), rfl⟩)

theorem c_IsLanding (x : Int) (w : World) :
    Calls Tryz.prog 73 #[.int .u8 x] w fun e w' => e = .returned (.bool (landB x)) ∧ w = w' := by
  go_enter Tryz.func73, Tryz.ntmps73
  go_wp2
  all_goals (go_ret; exact ⟨ret_bool (by simp_all [landB]), rfl⟩)

theorem c_inverse (x : Int) (h0 : 0 ≤ x) (h1 : x ≤ 255) (w : World) :
    Calls Tryz.prog 90 #[.int .u8 x] w fun e w' => e = .returned (.int .u8 (inv x)) ∧ w = w' := by
  go_enter Tryz.func90, Tryz.ntmps90
  go_wp2
  all_goals (go_ret; exact ⟨ret_int (by simp_all [inv]), rfl⟩)

theorem c_Inverse (op a b c d : Int) (h0 : 0 ≤ op) (h1 : op ≤ 255) (w : World) :
    Calls Tryz.prog 75 #[.agg #[.int .u8 op, .int .i64 a, .int .i64 b, .int .i64 c, .int .i64 d]] w fun e w' =>
      e = .returned (.agg #[.int .u8 (inv op), .int .i64 a, .int .i64 b, .int .i64 c, .int .i64 d]) ∧ Below w.heap.size w w' := by
  go_enter Tryz.func75, Tryz.ntmps75
  go_wp2_with (go_at_call 90; refine (c_inverse _ (by omega) (by omega) _).mono ?_; rintro e w' ⟨rfl, rfl⟩)
  exact bodyPost_ret (v := .agg #[.int .u8 (inv op), .int .i64 a, .int .i64 b, .int .i64 c, .int .i64 d]) (by simp [results, Tryz.results75, go_sem]) rfl
    ⟨rfl, ((Below.refl _ _).alloc (Nat.le_refl _) _).alloc (by simp) _⟩

theorem c_Target (op a b c d : Int) (w : World) :
    Calls Tryz.prog 99 #[.agg #[.int .u8 op, .int .i64 a, .int .i64 b, .int .i64 c, .int .i64 d]] w fun e w' =>
      e = .returned (.tuple #[.int .i64 (targetP op a b).1, .bool (targetP op a b).2]) ∧ Below w.heap.size w w' := by
  go_enter Tryz.func99, Tryz.ntmps99
  go_wp2
  all_goals (go_ret2; refine ⟨?_, (Below.refl _ _).alloc (Nat.le_refl _) _⟩; simp_all [targetP])


theorem c_IsJump' (x : Int) {v : Bool} (h : jumpB x = v) (w : World) :
    Calls Tryz.prog 72 #[.int .u8 x] w fun e w' => e = .returned (.bool v) ∧ w = w' := by
  rw [← h]; exact c_IsJump x w
theorem c_IsLanding' (x : Int) {v : Bool} (h : landB x = v) (w : World) :
    Calls Tryz.prog 73 #[.int .u8 x] w fun e w' => e = .returned (.bool v) ∧ w = w' := by
  rw [← h]; exact c_IsLanding x w
theorem quiet_left {P : Program} {f : FuncId} {args : Array Value} {w : World} {n : Nat} {v : Value}
    (h : Calls P f args (w.drewN n) fun e w' => e = .returned v ∧ w.drewN n = w') : Calls P f args (w.drewN n) fun e w'' => e = .returned v ∧ ∃ m, w'' = w.drewN m :=
  h.mono fun _ _ ⟨he, hm⟩ => ⟨he, n, hm.symm⟩
end Go.Proofs.YtbijhlgdilkopaaGreatDoor

/- The walk of isa.Valid: what its table holds. -/
set_option linter.unusedSimpArgs false
namespace Go.Proofs.YtbijhlgdilkopaaGreatDoor
open Go.RowKit Bk

/-- What the table of the instruction set holds: the numbers of operands. -/
def TableAt (w : World) : Prop := ∀ k, k < 35 → w.cell? ⟨0, 2 * k + 1, none⟩ = some (.int .i64 (arity k))

theorem TableAt.lt {w : World} (h : TableAt w) : 0 < w.heap.size := by
  rcases Nat.lt_or_ge 0 w.heap.size with hlt | hge
  · exact hlt
  · have h1 := h 0 (by decide)
    simp [World.cell?, Array.getElem?_eq_none hge] at h1

theorem TableAt.below {w w' : World} {B : Nat} (h : TableAt w) (hb : Below B w w') (hB : 0 < B) : TableAt w' :=
  fun k hk => (hb.cell (p := ⟨0, 2 * k + 1, none⟩) hB).trans (h k hk)
theorem TableAt.next {w w' : World} (h : TableAt w) (hb : Below w.heap.size w w') : TableAt w' := h.below hb h.lt

theorem ix4 (a b c d : Int) : (∀ w, (Instr.index 116 (.agg #[.int .i64 a, .int .i64 b, .int .i64 c, .int .i64 d]) (.int .i64 0)).run Tryz.prog w = .ok (.int .i64 a) w) ∧ (∀ w, (Instr.index 116 (.agg #[.int .i64 a, .int .i64 b, .int .i64 c, .int .i64 d]) (.int .i64 1)).run Tryz.prog w = .ok (.int .i64 b) w) ∧ (∀ w, (Instr.index 116 (.agg #[.int .i64 a, .int .i64 b, .int .i64 c, .int .i64 d]) (.int .i64 2)).run Tryz.prog w = .ok (.int .i64 c) w) ∧ (∀ w, (Instr.index 116 (.agg #[.int .i64 a, .int .i64 b, .int .i64 c, .int .i64 d]) (.int .i64 3)).run Tryz.prog w = .ok (.int .i64 d) w) :=
  ⟨fun _ => by kernel_rfl, fun _ => by kernel_rfl, fun _ => by kernel_rfl, fun _ => by kernel_rfl⟩
/-- What isa.Valid does, said in short. -/
def VC (op a b c d : Int) (w : World) : Prop := Calls Tryz.prog 69 #[.agg #[.int .u8 op, .int .i64 a, .int .i64 b, .int .i64 c, .int .i64 d]] w fun e w' => e = .returned (.bool (validB op a b c d)) ∧ Below w.heap.size w w'
end Go.Proofs.YtbijhlgdilkopaaGreatDoor
