/- cpu.fits and cpu.Fits with both answers. -/
import Derived.Test.YtbijhlgdilkopaaGreatDoorCpX
import Derived.Test.YtbijhlgdilkopaaGreatDoorZPartner
set_option linter.unusedVariables false
set_option linter.unusedSimpArgs false
set_option maxRecDepth 100000
set_option maxHeartbeats 8000000
namespace Go.Proofs.YtbijhlgdilkopaaGreatDoor
open Go.RowKit Bk
theorem fg_dir {w : World} {D : Nat → Prop} {b off : Nat} {M : Mach} {vm vs vc vi vo : Value} {sv : List Value} (h : MRd w D b off M vm vs vc vi vo sv) (A : Option Addr) (n cap : Nat) (im : Img) (h1 : (M.dir != 1) = true) (h2 : (M.dir != -1) = true) :
    Calls Tryz.prog 53 #[.agg #[.slice A n cap, .int .i64 im.mem, .int .i64 im.stacks], .pointer (some ⟨b, off, none⟩)] w fun e w' => e = .returned (.bool false) ∧ Below w.heap.size w w' := by
  obtain ⟨Av, cv, rfl, _⟩ := h.s; obtain ⟨Am, cm, rfl, _⟩ := h.m; obtain ⟨Ac, cc, rfl, _⟩ := h.lc; obtain ⟨Ai, ci, rfl, _⟩ := h.li; obtain ⟨Ao, co, rfl, _⟩ := h.lo; have HM0 := Lib.hid h; clear h; go_enter Tryz.func53, Tryz.ntmps53; go_upto_region 1 with fail; refine wp_nameY ?_; intro w1 hw1; have hB_w1 : Below w.heap.size w w1 := (by rw [hw1]; exact (by go_grown)); have K_1 : Blk w1 w.heap.size 82 #[.slice A n cap, .int .i64 im.mem, .int .i64 im.stacks] := (by rw [hw1]; exact (by repeat' (first | assumption | exact Blk.new' (by simp) _ _ | apply Blk.alloc | apply Blk.drew))); have HM := Lib.hid (HM0.out.next hB_w1); clear hw1; obtain ⟨z_1, T_1, F_1⟩ := K_1.open_; have H_1 := Lib.hid K_1; clear K_1; have hbl := HM.out.lt; have e0 := HM.out.c0; have e1 := HM.out.c1; have e18 := HM.out.c18; have e19 := HM.out.c19
  go_wp2_with fail
  go_quiet (fail)
  go_wp2_with fail; go_ret; exact ⟨rfl, by repeat' (first | (with_reducible assumption) | (with_reducible exact Below.refl _ _) | (with_reducible refine Below.alloc ?_ ?_ _) | (with_reducible refine Bk.drewN_ ?_ _) | (with_reducible refine Below.drew ?_) | (with_reducible refine Below.setCell ?_ ?_ _) | go_size)⟩
theorem fg_10 {w : World} {D : Nat → Prop} {b off : Nat} {M : Mach} {vm vs vc vi vo : Value} {sv : List Value} (h : MRd w D b off M vm vs vc vi vo sv) (A : Option Addr) (n cap : Nat) (im : Img) (hd : M.dir = 1 ∨ M.dir = -1) (t0 : decide (M.pc < 0) = true) :
    Calls Tryz.prog 53 #[.agg #[.slice A n cap, .int .i64 im.mem, .int .i64 im.stacks], .pointer (some ⟨b, off, none⟩)] w fun e w' => e = .returned (.bool false) ∧ Below w.heap.size w w' := by
  rcases hd with hd | hd
  all_goals
    obtain ⟨Av, cv, rfl, _⟩ := h.s; obtain ⟨Am, cm, rfl, _⟩ := h.m; obtain ⟨Ac, cc, rfl, _⟩ := h.lc; obtain ⟨Ai, ci, rfl, _⟩ := h.li; obtain ⟨Ao, co, rfl, _⟩ := h.lo; have HM0 := Lib.hid h; clear h; go_enter Tryz.func53, Tryz.ntmps53; go_upto_region 1 with fail; refine wp_nameY ?_; intro w1 hw1; have hB_w1 : Below w.heap.size w w1 := (by rw [hw1]; exact (by go_grown)); have K_1 : Blk w1 w.heap.size 82 #[.slice A n cap, .int .i64 im.mem, .int .i64 im.stacks] := (by rw [hw1]; exact (by repeat' (first | assumption | exact Blk.new' (by simp) _ _ | apply Blk.alloc | apply Blk.drew))); have HM := Lib.hid (HM0.out.next hB_w1); clear hw1; obtain ⟨z_1, T_1, F_1⟩ := K_1.open_; have H_1 := Lib.hid K_1; clear K_1; have hbl := HM.out.lt; have e0 := HM.out.c0; have e1 := HM.out.c1; have e18 := HM.out.c18; have e19 := HM.out.c19
    go_wp2_with fail
    go_quiet (fail)
    go_wp2_with fail; go_ret; exact ⟨rfl, by repeat' (first | (with_reducible assumption) | (with_reducible exact Below.refl _ _) | (with_reducible refine Below.alloc ?_ ?_ _) | (with_reducible refine Bk.drewN_ ?_ _) | (with_reducible refine Below.drew ?_) | (with_reducible refine Below.setCell ?_ ?_ _) | go_size)⟩
theorem fg_11 {w : World} {D : Nat → Prop} {b off : Nat} {M : Mach} {vm vs vc vi vo : Value} {sv : List Value} (h : MRd w D b off M vm vs vc vi vo sv) (A : Option Addr) (n cap : Nat) (im : Img) (hd : M.dir = 1 ∨ M.dir = -1) (t0 : decide (M.pc < 0) = false) (t1 : decide ((n : Int) < M.pc) = true) :
    Calls Tryz.prog 53 #[.agg #[.slice A n cap, .int .i64 im.mem, .int .i64 im.stacks], .pointer (some ⟨b, off, none⟩)] w fun e w' => e = .returned (.bool false) ∧ Below w.heap.size w w' := by
  rcases hd with hd | hd
  all_goals
    obtain ⟨Av, cv, rfl, _⟩ := h.s; obtain ⟨Am, cm, rfl, _⟩ := h.m; obtain ⟨Ac, cc, rfl, _⟩ := h.lc; obtain ⟨Ai, ci, rfl, _⟩ := h.li; obtain ⟨Ao, co, rfl, _⟩ := h.lo; have HM0 := Lib.hid h; clear h; go_enter Tryz.func53, Tryz.ntmps53; go_upto_region 1 with fail; refine wp_nameY ?_; intro w1 hw1; have hB_w1 : Below w.heap.size w w1 := (by rw [hw1]; exact (by go_grown)); have K_1 : Blk w1 w.heap.size 82 #[.slice A n cap, .int .i64 im.mem, .int .i64 im.stacks] := (by rw [hw1]; exact (by repeat' (first | assumption | exact Blk.new' (by simp) _ _ | apply Blk.alloc | apply Blk.drew))); have HM := Lib.hid (HM0.out.next hB_w1); clear hw1; obtain ⟨z_1, T_1, F_1⟩ := K_1.open_; have H_1 := Lib.hid K_1; clear K_1; have hbl := HM.out.lt; have e0 := HM.out.c0; have e1 := HM.out.c1; have e18 := HM.out.c18; have e19 := HM.out.c19
    go_wp2_with fail
    go_quiet (fail)
    go_wp2_with fail; go_ret; exact ⟨rfl, by repeat' (first | (with_reducible assumption) | (with_reducible exact Below.refl _ _) | (with_reducible refine Below.alloc ?_ ?_ _) | (with_reducible refine Bk.drewN_ ?_ _) | (with_reducible refine Below.drew ?_) | (with_reducible refine Below.setCell ?_ ?_ _) | go_size)⟩
theorem fg_30 {w : World} {D : Nat → Prop} {b off : Nat} {M : Mach} {vm vs vc vi vo : Value} {sv : List Value} (h : MRd w D b off M vm vs vc vi vo sv) (A : Option Addr) (n cap : Nat) (im : Img) (hd : M.dir = 1 ∨ M.dir = -1) (t0 : decide (M.pc < 0) = false) (t1 : decide ((n : Int) < M.pc) = false) (u0 : ((M.m.length : Int) != im.mem) = true) :
    Calls Tryz.prog 53 #[.agg #[.slice A n cap, .int .i64 im.mem, .int .i64 im.stacks], .pointer (some ⟨b, off, none⟩)] w fun e w' => e = .returned (.bool false) ∧ Below w.heap.size w w' := by
  rcases hd with hd | hd
  all_goals
    obtain ⟨Av, cv, rfl, _⟩ := h.s; obtain ⟨Am, cm, rfl, _⟩ := h.m; obtain ⟨Ac, cc, rfl, _⟩ := h.lc; obtain ⟨Ai, ci, rfl, _⟩ := h.li; obtain ⟨Ao, co, rfl, _⟩ := h.lo; have HM0 := Lib.hid h; clear h; go_enter Tryz.func53, Tryz.ntmps53; go_upto_region 1 with fail; refine wp_nameY ?_; intro w1 hw1; have hB_w1 : Below w.heap.size w w1 := (by rw [hw1]; exact (by go_grown)); have K_1 : Blk w1 w.heap.size 82 #[.slice A n cap, .int .i64 im.mem, .int .i64 im.stacks] := (by rw [hw1]; exact (by repeat' (first | assumption | exact Blk.new' (by simp) _ _ | apply Blk.alloc | apply Blk.drew))); have HM := Lib.hid (HM0.out.next hB_w1); clear hw1; obtain ⟨z_1, T_1, F_1⟩ := K_1.open_; have H_1 := Lib.hid K_1; clear K_1; have hbl := HM.out.lt; have e0 := HM.out.c0; have e1 := HM.out.c1; have e18 := HM.out.c18; have e19 := HM.out.c19
    go_wp2_with fail
    go_quiet (fail)
    go_wp2_with fail
    go_quiet (fail)
    go_wp2_with fail; go_ret; exact ⟨rfl, by repeat' (first | (with_reducible assumption) | (with_reducible exact Below.refl _ _) | (with_reducible refine Below.alloc ?_ ?_ _) | (with_reducible refine Bk.drewN_ ?_ _) | (with_reducible refine Below.drew ?_) | (with_reducible refine Below.setCell ?_ ?_ _) | go_size)⟩
theorem fg_31 {w : World} {D : Nat → Prop} {b off : Nat} {M : Mach} {vm vs vc vi vo : Value} {sv : List Value} (h : MRd w D b off M vm vs vc vi vo sv) (A : Option Addr) (n cap : Nat) (im : Img) (hd : M.dir = 1 ∨ M.dir = -1) (t0 : decide (M.pc < 0) = false) (t1 : decide ((n : Int) < M.pc) = false) (u0 : ((M.m.length : Int) != im.mem) = false) (u1 : ((M.s.length : Int) != im.stacks) = true) :
    Calls Tryz.prog 53 #[.agg #[.slice A n cap, .int .i64 im.mem, .int .i64 im.stacks], .pointer (some ⟨b, off, none⟩)] w fun e w' => e = .returned (.bool false) ∧ Below w.heap.size w w' := by
  rcases hd with hd | hd
  all_goals
    obtain ⟨Av, cv, rfl, _⟩ := h.s; obtain ⟨Am, cm, rfl, _⟩ := h.m; obtain ⟨Ac, cc, rfl, _⟩ := h.lc; obtain ⟨Ai, ci, rfl, _⟩ := h.li; obtain ⟨Ao, co, rfl, _⟩ := h.lo; have HM0 := Lib.hid h; clear h; go_enter Tryz.func53, Tryz.ntmps53; go_upto_region 1 with fail; refine wp_nameY ?_; intro w1 hw1; have hB_w1 : Below w.heap.size w w1 := (by rw [hw1]; exact (by go_grown)); have K_1 : Blk w1 w.heap.size 82 #[.slice A n cap, .int .i64 im.mem, .int .i64 im.stacks] := (by rw [hw1]; exact (by repeat' (first | assumption | exact Blk.new' (by simp) _ _ | apply Blk.alloc | apply Blk.drew))); have HM := Lib.hid (HM0.out.next hB_w1); clear hw1; obtain ⟨z_1, T_1, F_1⟩ := K_1.open_; have H_1 := Lib.hid K_1; clear K_1; have hbl := HM.out.lt; have e0 := HM.out.c0; have e1 := HM.out.c1; have e18 := HM.out.c18; have e19 := HM.out.c19
    go_wp2_with fail
    go_quiet (fail)
    go_wp2_with fail
    go_quiet (fail)
    go_wp2_with fail; go_ret; exact ⟨rfl, by repeat' (first | (with_reducible assumption) | (with_reducible exact Below.refl _ _) | (with_reducible refine Below.alloc ?_ ?_ _) | (with_reducible refine Bk.drewN_ ?_ _) | (with_reducible refine Below.drew ?_) | (with_reducible refine Below.setCell ?_ ?_ _) | go_size)⟩
theorem fg_32 {w : World} {D : Nat → Prop} {b off : Nat} {M : Mach} {vm vs vc vi vo : Value} {sv : List Value} (h : MRd w D b off M vm vs vc vi vo sv) (A : Option Addr) (n cap : Nat) (im : Img) (hd : M.dir = 1 ∨ M.dir = -1) (t0 : decide (M.pc < 0) = false) (t1 : decide ((n : Int) < M.pc) = false) (u0 : ((M.m.length : Int) != im.mem) = false) (u1 : ((M.s.length : Int) != im.stacks) = false) (u2 : decide ((M.s.length : Int) < 1) = true) :
    Calls Tryz.prog 53 #[.agg #[.slice A n cap, .int .i64 im.mem, .int .i64 im.stacks], .pointer (some ⟨b, off, none⟩)] w fun e w' => e = .returned (.bool false) ∧ Below w.heap.size w w' := by
  rcases hd with hd | hd
  all_goals
    obtain ⟨Av, cv, rfl, _⟩ := h.s; obtain ⟨Am, cm, rfl, _⟩ := h.m; obtain ⟨Ac, cc, rfl, _⟩ := h.lc; obtain ⟨Ai, ci, rfl, _⟩ := h.li; obtain ⟨Ao, co, rfl, _⟩ := h.lo; have HM0 := Lib.hid h; clear h; go_enter Tryz.func53, Tryz.ntmps53; go_upto_region 1 with fail; refine wp_nameY ?_; intro w1 hw1; have hB_w1 : Below w.heap.size w w1 := (by rw [hw1]; exact (by go_grown)); have K_1 : Blk w1 w.heap.size 82 #[.slice A n cap, .int .i64 im.mem, .int .i64 im.stacks] := (by rw [hw1]; exact (by repeat' (first | assumption | exact Blk.new' (by simp) _ _ | apply Blk.alloc | apply Blk.drew))); have HM := Lib.hid (HM0.out.next hB_w1); clear hw1; obtain ⟨z_1, T_1, F_1⟩ := K_1.open_; have H_1 := Lib.hid K_1; clear K_1; have hbl := HM.out.lt; have e0 := HM.out.c0; have e1 := HM.out.c1; have e18 := HM.out.c18; have e19 := HM.out.c19
    go_wp2_with fail
    go_quiet (fail)
    go_wp2_with fail
    go_quiet (fail)
    go_wp2_with fail; go_ret; exact ⟨rfl, by repeat' (first | (with_reducible assumption) | (with_reducible exact Below.refl _ _) | (with_reducible refine Below.alloc ?_ ?_ _) | (with_reducible refine Bk.drewN_ ?_ _) | (with_reducible refine Below.drew ?_) | (with_reducible refine Below.setCell ?_ ?_ _) | go_size)⟩
end Go.Proofs.YtbijhlgdilkopaaGreatDoor
