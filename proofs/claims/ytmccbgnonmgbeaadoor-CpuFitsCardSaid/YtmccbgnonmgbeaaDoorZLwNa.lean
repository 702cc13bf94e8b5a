/- Contracts of cpu.New where it fails, of cpu.Fits at an image that is not valid. -/
import Derived.Test.YtmccbgnonmgbeaaDoorLwY
import Derived.Test.YtmccbgnonmgbeaaDoorZREq
set_option linter.unusedVariables false
set_option linter.unusedSimpArgs false
namespace Bk
/-- The zero machine. -/
def zeroM : Mach := ⟨0, 0, List.replicate 16 0, [], [], [], 0, 0, [], []⟩
end Bk
namespace Go.Proofs.YtmccbgnonmgbeaaDoor
open Go.RowKit Bk
theorem zero_cells : (#[.int .i64 0, .int .i64 0, .int .i64 0, .int .i64 0, .int .i64 0, .int .i64 0, .int .i64 0, .int .i64 0, .int .i64 0, .int .i64 0, .int .i64 0, .int .i64 0, .int .i64 0, .int .i64 0, .int .i64 0, .int .i64 0, .int .i64 0, .int .i64 0, .slice none 0 0, .slice none 0 0, .slice none 0 0, .int .i64 0, .int .i64 0, .slice none 0 0, .slice none 0 0] : Array Value) = (mcells zeroM (.slice none 0 0) (.slice none 0 0) (.slice none 0 0) (.slice none 0 0) (.slice none 0 0)).toArray := rfl
theorem zero_mls (w : World) : MLs w (fun _ => False) zeroM (.slice none 0 0) (.slice none 0 0) (.slice none 0 0) (.slice none 0 0) (.slice none 0 0) [] :=
  ⟨rfl, Sl.nil, Sl.nil, ⟨⟨rfl, fun k hk => by simp [zeroM] at hk⟩, Sl.nil, Sl.nil, Sl.nil⟩, fun _ h => h.elim⟩
theorem zero_bd : MBd zeroM := ⟨by decide, by decide, by decide, by decide, by decide, by decide, by decide, by decide, by decide, fun l hl => by simp [zeroM] at hl⟩
set_option maxRecDepth 100000 in
set_option maxHeartbeats 2000000 in
theorem c_NewBad {w : World} {A : Option Addr} {n cap : Nat} {im : Img} (hv : im.valid = false) (hC : Rd w (· < w.heap.size) 5 A n (codeCells im.code)) (hw : CodeWf im.code) (hTab : TableAt w) (v : Value) :
    Calls Tryd.prog 27 #[.agg #[.slice A n cap, .int .i64 im.mem, .int .i64 im.stacks], v] w fun e w' => e = .returned (.tuple #[.agg #[.int .i64 0, .int .i64 0, .int .i64 0, .int .i64 0, .int .i64 0, .int .i64 0, .int .i64 0, .int .i64 0, .int .i64 0, .int .i64 0, .int .i64 0, .int .i64 0, .int .i64 0, .int .i64 0, .int .i64 0, .int .i64 0, .int .i64 0, .int .i64 0, .slice none 0 0, .slice none 0 0, .slice none 0 0, .int .i64 0, .int .i64 0, .slice none 0 0, .slice none 0 0], .int .i64 3]) ∧ Below w.heap.size w w' := by
  have HT := Lib.hid hTab; have HC := Lib.hid hC; have HV := Lib.hid hv
  clear hTab hC hv
  go_enter Tryd.func27, Tryd.ntmps27
  go_wp2_with fail
  refine (c_imValid' A n cap im HV.out _ (HC.out.next (by repeat' (first | (with_reducible assumption) | (with_reducible exact Below.refl _ _) | (with_reducible refine Below.alloc ?_ ?_ _) | (with_reducible refine Bk.drewN_ ?_ _) | (with_reducible refine Below.drew ?_) | (with_reducible refine Below.setCell ?_ ?_ _) | go_size))) hw (HT.out.next (by repeat' (first | (with_reducible assumption) | (with_reducible exact Below.refl _ _) | (with_reducible refine Below.alloc ?_ ?_ _) | (with_reducible refine Bk.drewN_ ?_ _) | (with_reducible refine Below.drew ?_) | (with_reducible refine Below.setCell ?_ ?_ _) | go_size)))).mono ?_
  rintro e w2 ⟨rfl, hb2⟩
  have hB_w2 : Below w.heap.size w w2 := Below.next (by repeat' (first | (with_reducible assumption) | (with_reducible exact Below.refl _ _) | (with_reducible refine Below.alloc ?_ ?_ _) | (with_reducible refine Bk.drewN_ ?_ _) | (with_reducible refine Below.drew ?_) | (with_reducible refine Below.setCell ?_ ?_ _) | go_size)) hb2
  have KZ : Blk w2 (w.heap.size + 1) 30 #[.int .i64 0, .int .i64 0, .int .i64 0, .int .i64 0, .int .i64 0, .int .i64 0, .int .i64 0, .int .i64 0, .int .i64 0, .int .i64 0, .int .i64 0, .int .i64 0, .int .i64 0, .int .i64 0, .int .i64 0, .int .i64 0, .int .i64 0, .int .i64 0, .slice none 0 0, .slice none 0 0, .slice none 0 0, .int .i64 0, .int .i64 0, .slice none 0 0, .slice none 0 0] := Blk.next (by repeat' (first | with_reducible assumption | (refine Blk.new' ?_ _ _; simp; done) | refine Blk.alloc ?_ _ | refine Blk.drewN ?_ _ | refine Blk.drew ?_)) hb2
  clear hb2
  go_wp2_with (refine wpList_store_row rfl 30 (.tmp 4) (.tmp 9) rfl (w.heap.size + 1) #[.int .i64 0, .int .i64 0, .int .i64 0, .int .i64 0, .int .i64 0, .int .i64 0, .int .i64 0, .int .i64 0, .int .i64 0, .int .i64 0, .int .i64 0, .int .i64 0, .int .i64 0, .int .i64 0, .int .i64 0, .int .i64 0, .int .i64 0, .int .i64 0, .slice none 0 0, .slice none 0 0, .slice none 0 0, .int .i64 0, .int .i64 0, .slice none 0 0, .slice none 0 0] rfl rfl 30 #[.int .i64 0, .int .i64 0, .int .i64 0, .int .i64 0, .int .i64 0, .int .i64 0, .int .i64 0, .int .i64 0, .int .i64 0, .int .i64 0, .int .i64 0, .int .i64 0, .int .i64 0, .int .i64 0, .int .i64 0, .int .i64 0, .int .i64 0, .int .i64 0, .slice none 0 0, .slice none 0 0, .slice none 0 0, .int .i64 0, .int .i64 0, .slice none 0 0, .slice none 0 0] KZ (by rw [info_mach25]; rfl) rfl (by simp [Value.oneCell']) ?_; simp only [Act.put, List.setIfInBounds_toArray, List.set_cons_succ, List.set_cons_zero])
  generalize hw9 : World.setRow _ _ _ = w9
  have hB9 : Below w.heap.size w w9 := by rw [← hw9]; exact ((Fr.of hB_w2).trans ((Fr.setRow _ _ _).mono (O' := (· = w.heap.size + 1)) (fun k hk => hk))).below (Nat.le_refl _) (fun k hk => by omega)
  have HKF : Hid (Blk w9 (w.heap.size + 1) 30 #[.int .i64 0, .int .i64 0, .int .i64 0, .int .i64 0, .int .i64 0, .int .i64 0, .int .i64 0, .int .i64 0, .int .i64 0, .int .i64 0, .int .i64 0, .int .i64 0, .int .i64 0, .int .i64 0, .int .i64 0, .int .i64 0, .int .i64 0, .int .i64 0, .slice none 0 0, .slice none 0 0, .slice none 0 0, .int .i64 0, .int .i64 0, .slice none 0 0, .slice none 0 0]) := by rw [← hw9]; exact Lib.hid (setRow_heap _ _ _ _ _ _ KZ)
  clear hw9 KZ
  (try simp only [Exit.inBlock, Exit.then])
  refine bodyPost_ret_by (results_cell_row2 rfl _ _ (w.heap.size + 1) _ _ _ rfl HKF.out Tryd.underlying30 rfl (by rw [info_mach25]; rfl)) rfl ?_
  exact ⟨rfl, hB9⟩
set_option maxRecDepth 100000 in
set_option maxHeartbeats 2000000 in
theorem c_NewFull {w : World} {A : Option Addr} {n cap : Nat} {im : Img} (hv : im.valid = true) (hC : Rd w (· < w.heap.size) 5 A n (codeCells im.code)) (hw : CodeWf im.code) (hTab : TableAt w) {D : Nat → Prop} {v : Value} {l : List Int} (hI : Sl w D 1 v l.length (intCells l)) (hl : 4096 < l.length) :
    Calls Tryd.prog 27 #[.agg #[.slice A n cap, .int .i64 im.mem, .int .i64 im.stacks], v] w fun e w' => e = .returned (.tuple #[.agg #[.int .i64 0, .int .i64 0, .int .i64 0, .int .i64 0, .int .i64 0, .int .i64 0, .int .i64 0, .int .i64 0, .int .i64 0, .int .i64 0, .int .i64 0, .int .i64 0, .int .i64 0, .int .i64 0, .int .i64 0, .int .i64 0, .int .i64 0, .int .i64 0, .slice none 0 0, .slice none 0 0, .slice none 0 0, .int .i64 0, .int .i64 0, .slice none 0 0, .slice none 0 0], .int .i64 5]) ∧ Below w.heap.size w w' := by
  obtain ⟨Ai, ci, rfl, _⟩ := hI
  have hl' : decide (4096 < (l.length : Int)) = true := by simp; omega
  have HT := Lib.hid hTab; have HC := Lib.hid hC; have HV := Lib.hid hv
  clear hTab hC hv
  go_enter Tryd.func27, Tryd.ntmps27
  go_wp2_with fail
  refine (c_imValid' A n cap im HV.out _ (HC.out.next (by repeat' (first | (with_reducible assumption) | (with_reducible exact Below.refl _ _) | (with_reducible refine Below.alloc ?_ ?_ _) | (with_reducible refine Bk.drewN_ ?_ _) | (with_reducible refine Below.drew ?_) | (with_reducible refine Below.setCell ?_ ?_ _) | go_size))) hw (HT.out.next (by repeat' (first | (with_reducible assumption) | (with_reducible exact Below.refl _ _) | (with_reducible refine Below.alloc ?_ ?_ _) | (with_reducible refine Bk.drewN_ ?_ _) | (with_reducible refine Below.drew ?_) | (with_reducible refine Below.setCell ?_ ?_ _) | go_size)))).mono ?_
  rintro e w2 ⟨rfl, hb2⟩
  have hB_w2 : Below w.heap.size w w2 := Below.next (by repeat' (first | (with_reducible assumption) | (with_reducible exact Below.refl _ _) | (with_reducible refine Below.alloc ?_ ?_ _) | (with_reducible refine Bk.drewN_ ?_ _) | (with_reducible refine Below.drew ?_) | (with_reducible refine Below.setCell ?_ ?_ _) | go_size)) hb2
  have KZ : Blk w2 (w.heap.size + 1) 30 #[.int .i64 0, .int .i64 0, .int .i64 0, .int .i64 0, .int .i64 0, .int .i64 0, .int .i64 0, .int .i64 0, .int .i64 0, .int .i64 0, .int .i64 0, .int .i64 0, .int .i64 0, .int .i64 0, .int .i64 0, .int .i64 0, .int .i64 0, .int .i64 0, .slice none 0 0, .slice none 0 0, .slice none 0 0, .int .i64 0, .int .i64 0, .slice none 0 0, .slice none 0 0] := Blk.next (by repeat' (first | with_reducible assumption | (refine Blk.new' ?_ _ _; simp; done) | refine Blk.alloc ?_ _ | refine Blk.drewN ?_ _ | refine Blk.drew ?_)) hb2
  clear hb2
  go_wp2_with (refine wpList_store_row rfl 30 (.tmp 4) (.tmp 13) rfl (w.heap.size + 1) #[.int .i64 0, .int .i64 0, .int .i64 0, .int .i64 0, .int .i64 0, .int .i64 0, .int .i64 0, .int .i64 0, .int .i64 0, .int .i64 0, .int .i64 0, .int .i64 0, .int .i64 0, .int .i64 0, .int .i64 0, .int .i64 0, .int .i64 0, .int .i64 0, .slice none 0 0, .slice none 0 0, .slice none 0 0, .int .i64 0, .int .i64 0, .slice none 0 0, .slice none 0 0] rfl rfl 30 #[.int .i64 0, .int .i64 0, .int .i64 0, .int .i64 0, .int .i64 0, .int .i64 0, .int .i64 0, .int .i64 0, .int .i64 0, .int .i64 0, .int .i64 0, .int .i64 0, .int .i64 0, .int .i64 0, .int .i64 0, .int .i64 0, .int .i64 0, .int .i64 0, .slice none 0 0, .slice none 0 0, .slice none 0 0, .int .i64 0, .int .i64 0, .slice none 0 0, .slice none 0 0] KZ (by rw [info_mach25]; rfl) rfl (by simp [Value.oneCell']) ?_; simp only [Act.put, List.setIfInBounds_toArray, List.set_cons_succ, List.set_cons_zero])
  generalize hw9 : World.setRow _ _ _ = w9
  have hB9 : Below w.heap.size w w9 := by rw [← hw9]; exact ((Fr.of hB_w2).trans ((Fr.setRow _ _ _).mono (O' := (· = w.heap.size + 1)) (fun k hk => hk))).below (Nat.le_refl _) (fun k hk => by omega)
  have HKF : Hid (Blk w9 (w.heap.size + 1) 30 #[.int .i64 0, .int .i64 0, .int .i64 0, .int .i64 0, .int .i64 0, .int .i64 0, .int .i64 0, .int .i64 0, .int .i64 0, .int .i64 0, .int .i64 0, .int .i64 0, .int .i64 0, .int .i64 0, .int .i64 0, .int .i64 0, .int .i64 0, .int .i64 0, .slice none 0 0, .slice none 0 0, .slice none 0 0, .int .i64 0, .int .i64 0, .slice none 0 0, .slice none 0 0]) := by rw [← hw9]; exact Lib.hid (setRow_heap _ _ _ _ _ _ KZ)
  clear hw9 KZ
  (try simp only [Exit.inBlock, Exit.then])
  refine bodyPost_ret_by (results_cell_row2 rfl _ _ (w.heap.size + 1) _ _ _ rfl HKF.out Tryd.underlying30 rfl (by rw [info_mach25]; rfl)) rfl ?_
  exact ⟨rfl, hB9⟩
set_option maxRecDepth 100000 in
theorem c_FitsBad {w : World} {A : Option Addr} {n cap : Nat} {im : Img} (hv : im.valid = false) (hC : Rd w (· < w.heap.size) 5 A n (codeCells im.code)) (hw : CodeWf im.code) (hTab : TableAt w) (a : Addr) :
    Calls Tryd.prog 26 #[.agg #[.slice A n cap, .int .i64 im.mem, .int .i64 im.stacks], .pointer (some a)] w fun e w' => e = .returned (.bool false) ∧ Below w.heap.size w w' := by
  have HT := Lib.hid hTab; have HC := Lib.hid hC; have HV := Lib.hid hv
  clear hTab hC hv
  go_enter Tryd.func26, Tryd.ntmps26
  go_wp2_with fail
  refine (c_imValid' A n cap im HV.out _ (HC.out.next (by repeat' (first | (with_reducible assumption) | (with_reducible exact Below.refl _ _) | (with_reducible refine Below.alloc ?_ ?_ _) | (with_reducible refine Bk.drewN_ ?_ _) | (with_reducible refine Below.drew ?_) | (with_reducible refine Below.setCell ?_ ?_ _) | go_size))) hw (HT.out.next (by repeat' (first | (with_reducible assumption) | (with_reducible exact Below.refl _ _) | (with_reducible refine Below.alloc ?_ ?_ _) | (with_reducible refine Bk.drewN_ ?_ _) | (with_reducible refine Below.drew ?_) | (with_reducible refine Below.setCell ?_ ?_ _) | go_size)))).mono ?_
  rintro e w2 ⟨rfl, hb2⟩
  have hB_w2 : Below w.heap.size w w2 := Below.next (by repeat' (first | (with_reducible assumption) | (with_reducible exact Below.refl _ _) | (with_reducible refine Below.alloc ?_ ?_ _) | (with_reducible refine Bk.drewN_ ?_ _) | (with_reducible refine Below.drew ?_) | (with_reducible refine Below.setCell ?_ ?_ _) | go_size)) hb2
  clear hb2
  go_wp2_with fail
  go_ret
  exact ⟨rfl, hB_w2⟩
theorem c_FitsNil {w : World} {A : Option Addr} {n cap : Nat} {im : Img} :
    Calls Tryd.prog 26 #[.agg #[.slice A n cap, .int .i64 im.mem, .int .i64 im.stacks], .pointer none] w fun e w' => e = .returned (.bool false) ∧ Below w.heap.size w w' := by
  go_enter Tryd.func26, Tryd.ntmps26
  go_wp2_with fail
  go_ret
  exact ⟨rfl, by repeat' (first | (with_reducible assumption) | (with_reducible exact Below.refl _ _) | (with_reducible refine Below.alloc ?_ ?_ _) | (with_reducible refine Bk.drewN_ ?_ _) | (with_reducible refine Below.drew ?_) | (with_reducible refine Below.setCell ?_ ?_ _) | go_size)⟩
theorem newM_fit {im : Img} (hv : im.check.2 = 0) {l : List Int} (hi : ∀ x ∈ l, I64 x) (hl : l.length ≤ 4096) : Fit im (newM im.mem.toNat im.stacks.toNat l) := by
  have hz := (check_fault hv).1
  unfold Img.sized at hz
  simp only [Bool.and_eq_true, decide_eq_true_eq] at hz
  refine Fit.of ⟨by simp [newM], fun x hx => ?_, fun x hx => ?_, fun m hm x hx => ?_, hi, fun x hx => by simp [newM] at hx⟩ ?_
  · simp [newM] at hx; subst hx; exact i64_zero
  · simp [newM] at hx; rw [hx.2]; exact i64_zero
  · simp [newM] at hm; rw [hm.2] at hx; simp at hx
  · unfold fitsB newM
    dsimp only
    simp only [Bool.and_eq_true, decide_eq_true_eq, List.length_replicate, List.all_eq_true]
    refine ⟨⟨⟨⟨⟨⟨⟨by simp, by omega, by omega⟩, by omega⟩, by omega, by omega⟩, fun m hm => ?_⟩, fun a ha => by simp at ha⟩, by simp, hl, by simp⟩, by omega, by omega, by omega, by omega⟩
    have := List.mem_of_mem_drop hm
    simp at this
    simp [this.2]
theorem newM_bd {im : Img} (hv : im.check.2 = 0) {l : List Int} (hi : ∀ x ∈ l, I64 x) (hl : l.length ≤ 4096) : MBd (newM im.mem.toNat im.stacks.toNat l) :=
  MBd.of hv (newM_fit hv hi hl) (K := 0) (fun m hm => by simp [newM] at hm; simp [hm.2]) (by omega)
end Go.Proofs.YtmccbgnonmgbeaaDoor
