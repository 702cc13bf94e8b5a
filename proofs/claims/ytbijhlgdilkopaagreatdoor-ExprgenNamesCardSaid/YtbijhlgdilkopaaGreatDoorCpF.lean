/- Several texts in one: CpuF CpuG CpuH. -/
import Derived.Test.YtbijhlgdilkopaaGreatDoorCpD
import Derived.Test.YtbijhlgdilkopaaGreatDoorPa
import Derived.IntWalk
import Derived.Test.YtbijhlgdilkopaaGreatDoorIsT
set_option linter.unusedVariables false
set_option linter.unusedSimpArgs false
/- The walks of package cpu: execute, the opcodes that work on registers. -/
set_option maxRecDepth 100000
set_option maxHeartbeats 8000000
set_option linter.unusedVariables false
namespace Go.Proofs.YtbijhlgdilkopaaGreatDoor
open Go.RowKit Bk
variable {w : World} {D : Nat → Prop} {P : Pl} {M : Mach} {vm vs vc vi vo : Value} {sv : List Value}

theorem ex_1 (h : MOn w P M vm vs vc vi vo sv) (x y : Nat) (hx : x < 16) (hy : y < 16) (c d : Int) :
    Calls Tryz.prog 76 #[.pointer (some ⟨P.b, P.off, none⟩), .agg #[.int .u8 (1), .int .i64 ((x : Nat)), .int .i64 ((y : Nat)), .int .i64 (c), .int .i64 (d)]] w fun e w' => e = .returned (.int .i64 0) ∧ MAt w' P (M.setR x (wrap64 (M.reg x + M.reg y))) ∧ Fr P.O w w' := by
  obtain ⟨w1, hw1, h1, hbw, KI, hlt, hlt0, hne0, hne⟩ := h.al 102 #[.int .u8 (1), .int .i64 ((x : Nat)), .int .i64 ((y : Nat)), .int .i64 (c), .int .i64 (d)]; have H1 := Lib.hid h1; obtain ⟨er_x, zr_x, i0_x, i1_x⟩ := h1.rg x hx; obtain ⟨er_y, zr_y, i0_y, i1_y⟩ := h1.rg y hy; obtain ⟨zI, TI, FI⟩ := KI.open_; obtain ⟨b, tt, pre, post, off, gm, gs, fx⟩ := P; dsimp only at *; clear h h1 KI
  go_enter Tryz.func76, Tryz.ntmps76
  go_wp2_with fail
  rw [← hw1]
  clear hw1
  go_region
  go_wp2_with fail
  go_ret
  exact ⟨rfl, (H1.out.setReg x hx _).matE rfl, by repeat' (first | with_reducible (first | assumption | apply Fr.refl | apply Fr.drew | apply Fr.drewN | apply Fr.alloc | apply Fr.set) | exact .inl rfl | exact .inr (.inl rfl) | exact .inr (.inr rfl) | (apply Fr.of; assumption))⟩
theorem ex_2 (h : MOn w P M vm vs vc vi vo sv) (x y : Nat) (hx : x < 16) (hy : y < 16) (c d : Int) :
    Calls Tryz.prog 76 #[.pointer (some ⟨P.b, P.off, none⟩), .agg #[.int .u8 (2), .int .i64 ((x : Nat)), .int .i64 ((y : Nat)), .int .i64 (c), .int .i64 (d)]] w fun e w' => e = .returned (.int .i64 0) ∧ MAt w' P (M.setR x (wrap64 (M.reg x - M.reg y))) ∧ Fr P.O w w' := by
  obtain ⟨w1, hw1, h1, hbw, KI, hlt, hlt0, hne0, hne⟩ := h.al 102 #[.int .u8 (2), .int .i64 ((x : Nat)), .int .i64 ((y : Nat)), .int .i64 (c), .int .i64 (d)]; have H1 := Lib.hid h1; obtain ⟨er_x, zr_x, i0_x, i1_x⟩ := h1.rg x hx; obtain ⟨er_y, zr_y, i0_y, i1_y⟩ := h1.rg y hy; obtain ⟨zI, TI, FI⟩ := KI.open_; obtain ⟨b, tt, pre, post, off, gm, gs, fx⟩ := P; dsimp only at *; clear h h1 KI
  go_enter Tryz.func76, Tryz.ntmps76
  go_wp2_with fail
  rw [← hw1]
  clear hw1
  go_region
  go_wp2_with fail
  go_ret
  exact ⟨rfl, (H1.out.setReg x hx _).matE rfl, by repeat' (first | with_reducible (first | assumption | apply Fr.refl | apply Fr.drew | apply Fr.drewN | apply Fr.alloc | apply Fr.set) | exact .inl rfl | exact .inr (.inl rfl) | exact .inr (.inr rfl) | (apply Fr.of; assumption))⟩
theorem ex_3 (h : MOn w P M vm vs vc vi vo sv) (x y : Nat) (hx : x < 16) (hy : y < 16) (c d : Int) :
    Calls Tryz.prog 76 #[.pointer (some ⟨P.b, P.off, none⟩), .agg #[.int .u8 (3), .int .i64 ((x : Nat)), .int .i64 ((y : Nat)), .int .i64 (c), .int .i64 (d)]] w fun e w' => e = .returned (.int .i64 0) ∧ MAt w' P (M.setR x (xor64 (M.reg x) (M.reg y))) ∧ Fr P.O w w' := by
  obtain ⟨w1, hw1, h1, hbw, KI, hlt, hlt0, hne0, hne⟩ := h.al 102 #[.int .u8 (3), .int .i64 ((x : Nat)), .int .i64 ((y : Nat)), .int .i64 (c), .int .i64 (d)]; have H1 := Lib.hid h1; obtain ⟨er_x, zr_x, i0_x, i1_x⟩ := h1.rg x hx; obtain ⟨er_y, zr_y, i0_y, i1_y⟩ := h1.rg y hy; obtain ⟨zI, TI, FI⟩ := KI.open_; obtain ⟨b, tt, pre, post, off, gm, gs, fx⟩ := P; dsimp only at *; clear h h1 KI
  go_enter Tryz.func76, Tryz.ntmps76
  go_wp2_with fail
  rw [← hw1]
  clear hw1
  go_region
  go_wp2_with fail
  go_ret
  exact ⟨rfl, (H1.out.setReg x hx _).matE rfl, by repeat' (first | with_reducible (first | assumption | apply Fr.refl | apply Fr.drew | apply Fr.drewN | apply Fr.alloc | apply Fr.set) | exact .inl rfl | exact .inr (.inl rfl) | exact .inr (.inr rfl) | (apply Fr.of; assumption))⟩
theorem ex_4 (h : MOn w P M vm vs vc vi vo sv) (x : Nat) (hx : x < 16) (i c d : Int) :
    Calls Tryz.prog 76 #[.pointer (some ⟨P.b, P.off, none⟩), .agg #[.int .u8 (4), .int .i64 ((x : Nat)), .int .i64 (i), .int .i64 (c), .int .i64 (d)]] w fun e w' => e = .returned (.int .i64 0) ∧ MAt w' P (M.setR x (wrap64 (M.reg x + i))) ∧ Fr P.O w w' := by
  obtain ⟨w1, hw1, h1, hbw, KI, hlt, hlt0, hne0, hne⟩ := h.al 102 #[.int .u8 (4), .int .i64 ((x : Nat)), .int .i64 (i), .int .i64 (c), .int .i64 (d)]; have H1 := Lib.hid h1; obtain ⟨er_x, zr_x, i0_x, i1_x⟩ := h1.rg x hx; obtain ⟨zI, TI, FI⟩ := KI.open_; obtain ⟨b, tt, pre, post, off, gm, gs, fx⟩ := P; dsimp only at *; clear h h1 KI
  go_enter Tryz.func76, Tryz.ntmps76
  go_wp2_with fail
  rw [← hw1]
  clear hw1
  go_region
  go_wp2_with fail
  go_ret
  exact ⟨rfl, (H1.out.setReg x hx _).matE rfl, by repeat' (first | with_reducible (first | assumption | apply Fr.refl | apply Fr.drew | apply Fr.drewN | apply Fr.alloc | apply Fr.set) | exact .inl rfl | exact .inr (.inl rfl) | exact .inr (.inr rfl) | (apply Fr.of; assumption))⟩
theorem ex_5 (h : MOn w P M vm vs vc vi vo sv) (x : Nat) (hx : x < 16) (i c d : Int) :
    Calls Tryz.prog 76 #[.pointer (some ⟨P.b, P.off, none⟩), .agg #[.int .u8 (5), .int .i64 ((x : Nat)), .int .i64 (i), .int .i64 (c), .int .i64 (d)]] w fun e w' => e = .returned (.int .i64 0) ∧ MAt w' P (M.setR x (wrap64 (M.reg x - i))) ∧ Fr P.O w w' := by
  obtain ⟨w1, hw1, h1, hbw, KI, hlt, hlt0, hne0, hne⟩ := h.al 102 #[.int .u8 (5), .int .i64 ((x : Nat)), .int .i64 (i), .int .i64 (c), .int .i64 (d)]; have H1 := Lib.hid h1; obtain ⟨er_x, zr_x, i0_x, i1_x⟩ := h1.rg x hx; obtain ⟨zI, TI, FI⟩ := KI.open_; obtain ⟨b, tt, pre, post, off, gm, gs, fx⟩ := P; dsimp only at *; clear h h1 KI
  go_enter Tryz.func76, Tryz.ntmps76
  go_wp2_with fail
  rw [← hw1]
  clear hw1
  go_region
  go_wp2_with fail
  go_ret
  exact ⟨rfl, (H1.out.setReg x hx _).matE rfl, by repeat' (first | with_reducible (first | assumption | apply Fr.refl | apply Fr.drew | apply Fr.drewN | apply Fr.alloc | apply Fr.set) | exact .inl rfl | exact .inr (.inl rfl) | exact .inr (.inr rfl) | (apply Fr.of; assumption))⟩
theorem ex_6 (h : MOn w P M vm vs vc vi vo sv) (x : Nat) (hx : x < 16) (i c d : Int) :
    Calls Tryz.prog 76 #[.pointer (some ⟨P.b, P.off, none⟩), .agg #[.int .u8 (6), .int .i64 ((x : Nat)), .int .i64 (i), .int .i64 (c), .int .i64 (d)]] w fun e w' => e = .returned (.int .i64 0) ∧ MAt w' P (M.setR x (xor64 (M.reg x) i)) ∧ Fr P.O w w' := by
  obtain ⟨w1, hw1, h1, hbw, KI, hlt, hlt0, hne0, hne⟩ := h.al 102 #[.int .u8 (6), .int .i64 ((x : Nat)), .int .i64 (i), .int .i64 (c), .int .i64 (d)]; have H1 := Lib.hid h1; obtain ⟨er_x, zr_x, i0_x, i1_x⟩ := h1.rg x hx; obtain ⟨zI, TI, FI⟩ := KI.open_; obtain ⟨b, tt, pre, post, off, gm, gs, fx⟩ := P; dsimp only at *; clear h h1 KI
  go_enter Tryz.func76, Tryz.ntmps76
  go_wp2_with fail
  rw [← hw1]
  clear hw1
  go_region
  go_wp2_with fail
  go_ret
  exact ⟨rfl, (H1.out.setReg x hx _).matE rfl, by repeat' (first | with_reducible (first | assumption | apply Fr.refl | apply Fr.drew | apply Fr.drewN | apply Fr.alloc | apply Fr.set) | exact .inl rfl | exact .inr (.inl rfl) | exact .inr (.inr rfl) | (apply Fr.of; assumption))⟩
theorem ex_8 (h : MOn w P M vm vs vc vi vo sv) (x : Nat) (hx : x < 16) (i c d : Int) :
    Calls Tryz.prog 76 #[.pointer (some ⟨P.b, P.off, none⟩), .agg #[.int .u8 (8), .int .i64 ((x : Nat)), .int .i64 (i), .int .i64 (c), .int .i64 (d)]] w fun e w' => e = .returned (.int .i64 0) ∧ MAt w' P (M.setR x (wrap64 (-M.reg x))) ∧ Fr P.O w w' := by
  obtain ⟨w1, hw1, h1, hbw, KI, hlt, hlt0, hne0, hne⟩ := h.al 102 #[.int .u8 (8), .int .i64 ((x : Nat)), .int .i64 (i), .int .i64 (c), .int .i64 (d)]; have H1 := Lib.hid h1; obtain ⟨er_x, zr_x, i0_x, i1_x⟩ := h1.rg x hx; obtain ⟨zI, TI, FI⟩ := KI.open_; obtain ⟨b, tt, pre, post, off, gm, gs, fx⟩ := P; dsimp only at *; clear h h1 KI
  go_enter Tryz.func76, Tryz.ntmps76
  go_wp2_with fail
  rw [← hw1]
  clear hw1
  go_region
  go_wp2_with fail
  go_ret
  exact ⟨rfl, (H1.out.setReg x hx _).matE rfl, by repeat' (first | with_reducible (first | assumption | apply Fr.refl | apply Fr.drew | apply Fr.drewN | apply Fr.alloc | apply Fr.set) | exact .inl rfl | exact .inr (.inl rfl) | exact .inr (.inr rfl) | (apply Fr.of; assumption))⟩
theorem ex_0 (h : MOn w P M vm vs vc vi vo sv) (x i c d : Int) :
    Calls Tryz.prog 76 #[.pointer (some ⟨P.b, P.off, none⟩), .agg #[.int .u8 (0), .int .i64 ((x : Int)), .int .i64 (i), .int .i64 (c), .int .i64 (d)]] w fun e w' => e = .returned (.int .i64 0) ∧ MAt w' P (M) ∧ Fr P.O w w' := by
  obtain ⟨w1, hw1, h1, hbw, KI, hlt, hlt0, hne0, hne⟩ := h.al 102 #[.int .u8 (0), .int .i64 ((x : Int)), .int .i64 (i), .int .i64 (c), .int .i64 (d)]; have H1 := Lib.hid h1; obtain ⟨zI, TI, FI⟩ := KI.open_; obtain ⟨b, tt, pre, post, off, gm, gs, fx⟩ := P; dsimp only at *; clear h h1 KI
  go_enter Tryz.func76, Tryz.ntmps76
  go_wp2_with fail
  go_ret
  rw [← hw1]
  exact ⟨rfl, H1.out.matE rfl, by repeat' (first | with_reducible (first | assumption | apply Fr.refl | apply Fr.drew | apply Fr.drewN | apply Fr.alloc | apply Fr.set) | exact .inl rfl | exact .inr (.inl rfl) | exact .inr (.inr rfl) | (apply Fr.of; assumption))⟩
theorem ex_7 (h : MOn w P M vm vs vc vi vo sv) (x y : Nat) (hx : x < 16) (hy : y < 16) (c d : Int) :
    Calls Tryz.prog 76 #[.pointer (some ⟨P.b, P.off, none⟩), .agg #[.int .u8 (7), .int .i64 ((x : Nat)), .int .i64 ((y : Nat)), .int .i64 (c), .int .i64 (d)]] w fun e w' => e = .returned (.int .i64 0) ∧ MAt w' P ((M.setR x (M.reg y)).setR y (M.reg x)) ∧ Fr P.O w w' := by
  obtain ⟨w1, hw1, h1, hbw, KI, hlt, hlt0, hne0, hne⟩ := h.al 102 #[.int .u8 (7), .int .i64 ((x : Nat)), .int .i64 ((y : Nat)), .int .i64 (c), .int .i64 (d)]; have H1 := Lib.hid h1; obtain ⟨er_x, zr_x, i0_x, i1_x⟩ := h1.rg x hx; obtain ⟨er_y, zr_y, i0_y, i1_y⟩ := h1.rg y hy; obtain ⟨zI, TI, FI⟩ := KI.open_; obtain ⟨b, tt, pre, post, off, gm, gs, fx⟩ := P; dsimp only at *; clear h h1 KI
  go_enter Tryz.func76, Tryz.ntmps76
  go_wp2_with fail
  rw [← hw1]
  clear hw1
  obtain ⟨vz, hvz⟩ := cell?_setCell_some (w := w1) (p := ⟨b, off + 2 + x, none⟩) (x := .int .i64 (M.reg y)) (q := ⟨b, off + 2 + y, none⟩) (v := .int .i64 (M.reg y)) er_y
  go_region
  go_wp2_with fail
  go_ret
  exact ⟨rfl, ((H1.out.setReg x hx _).setReg y hy _).matE rfl, by repeat' (first | with_reducible (first | assumption | apply Fr.refl | apply Fr.drew | apply Fr.drewN | apply Fr.alloc | apply Fr.set) | exact .inl rfl | exact .inr (.inl rfl) | exact .inr (.inr rfl) | (apply Fr.of; assumption))⟩
theorem ex_21a (h : MOn w P M vm vs vc vi vo sv) (x : Nat) (hx : x < 16) (i c d : Int) (hr : M.reg x ≠ 0) :
    Calls Tryz.prog 76 #[.pointer (some ⟨P.b, P.off, none⟩), .agg #[.int .u8 (21), .int .i64 ((x : Nat)), .int .i64 (i), .int .i64 (c), .int .i64 (d)]] w fun e w' => e = .returned (.int .i64 i) ∧ MAt w' P (M) ∧ Fr P.O w w' := by
  obtain ⟨w1, hw1, h1, hbw, KI, hlt, hlt0, hne0, hne⟩ := h.al 102 #[.int .u8 (21), .int .i64 ((x : Nat)), .int .i64 (i), .int .i64 (c), .int .i64 (d)]; have H1 := Lib.hid h1; obtain ⟨er_x, zr_x, i0_x, i1_x⟩ := h1.rg x hx; obtain ⟨zI, TI, FI⟩ := KI.open_; obtain ⟨b, tt, pre, post, off, gm, gs, fx⟩ := P; dsimp only at *; clear h h1 KI
  go_enter Tryz.func76, Tryz.ntmps76
  go_wp2_with fail
  rw [← hw1]
  clear hw1
  have hr' : (M.reg x != 0) = true := by simpa using hr
  clear hr
  go_quiet (fail)
  go_wp2_with fail
  go_ret
  exact ⟨rfl, H1.out.matE rfl, by repeat' (first | with_reducible (first | assumption | apply Fr.refl | apply Fr.drew | apply Fr.drewN | apply Fr.alloc | apply Fr.set) | exact .inl rfl | exact .inr (.inl rfl) | exact .inr (.inr rfl) | (apply Fr.of; assumption))⟩
theorem ex_21b (h : MOn w P M vm vs vc vi vo sv) (x : Nat) (hx : x < 16) (i c d : Int) (hr : M.reg x = 0) :
    Calls Tryz.prog 76 #[.pointer (some ⟨P.b, P.off, none⟩), .agg #[.int .u8 (21), .int .i64 ((x : Nat)), .int .i64 (i), .int .i64 (c), .int .i64 (d)]] w fun e w' => e = .returned (.int .i64 0) ∧ MAt w' P (M) ∧ Fr P.O w w' := by
  obtain ⟨w1, hw1, h1, hbw, KI, hlt, hlt0, hne0, hne⟩ := h.al 102 #[.int .u8 (21), .int .i64 ((x : Nat)), .int .i64 (i), .int .i64 (c), .int .i64 (d)]; have H1 := Lib.hid h1; obtain ⟨er_x, zr_x, i0_x, i1_x⟩ := h1.rg x hx; obtain ⟨zI, TI, FI⟩ := KI.open_; obtain ⟨b, tt, pre, post, off, gm, gs, fx⟩ := P; dsimp only at *; clear h h1 KI
  go_enter Tryz.func76, Tryz.ntmps76
  go_wp2_with fail
  rw [← hw1]
  clear hw1
  rw [hr] at er_x
  clear hr
  go_quiet (fail)
  go_wp2_with fail
  go_ret
  exact ⟨rfl, H1.out.matE rfl, by repeat' (first | with_reducible (first | assumption | apply Fr.refl | apply Fr.drew | apply Fr.drewN | apply Fr.alloc | apply Fr.set) | exact .inl rfl | exact .inr (.inl rfl) | exact .inr (.inr rfl) | (apply Fr.of; assumption))⟩
end Go.Proofs.YtbijhlgdilkopaaGreatDoor

/- The walks of package cpu: execute, OpCalc. -/
set_option maxRecDepth 100000
set_option maxHeartbeats 8000000
set_option linter.unusedVariables false
namespace Go.Proofs.YtbijhlgdilkopaaGreatDoor
open Go.RowKit Bk
variable {w : World} {D : Nat → Prop} {P : Pl} {M : Mach} {vm vs vc vi vo : Value} {sv : List Value}

theorem u8_wrap (d : Int) (d0 : 0 ≤ d) (d1 : d ≤ 255) : IntKind.u8.wrap d = d := IntWalk.u8_in d ⟨d0, d1⟩
theorem c_Apply' (op x y : Int) (w : World) {v e : Int} (h : apply op x y = (v, e)) :
    Calls Tryz.prog 91 #[.int .u8 op, .int .i64 x, .int .i64 y] w fun en w' => en = .returned (.tuple #[.int .i64 v, .int .i64 e]) ∧ w = w' := by
  have := c_Apply op x y w
  rw [h] at this; exact this
theorem ex_9a (h : MOn w P M vm vs vc vi vo sv) (x y z : Nat) (hx : x < 16) (hy : y < 16) (hz : z < 16) (d : Int) (d0 : 0 ≤ d) (d1 : d ≤ 255) (av ae : Int) (hav : apply d (M.reg y) (M.reg z) = (av, ae)) (hr : ae ≠ 0) :
    Calls Tryz.prog 76 #[.pointer (some ⟨P.b, P.off, none⟩), .agg #[.int .u8 (9), .int .i64 ((x : Nat)), .int .i64 ((y : Nat)), .int .i64 ((z : Nat)), .int .i64 (d)]] w fun e w' => e = .returned (.int .i64 ae) ∧ MAt w' P (M) ∧ Fr P.O w w' := by
  obtain ⟨w1, hw1, h1, hbw, KI, hlt, hlt0, hne0, hne⟩ := h.al 102 #[.int .u8 (9), .int .i64 ((x : Nat)), .int .i64 ((y : Nat)), .int .i64 ((z : Nat)), .int .i64 (d)]; have H1 := Lib.hid h1; obtain ⟨er_x, zr_x, i0_x, i1_x⟩ := h1.rg x hx; obtain ⟨er_y, zr_y, i0_y, i1_y⟩ := h1.rg y hy; obtain ⟨er_z, zr_z, i0_z, i1_z⟩ := h1.rg z hz; obtain ⟨zI, TI, FI⟩ := KI.open_; obtain ⟨b, tt, pre, post, off, gm, gs, fx⟩ := P; dsimp only at *; clear h h1 KI
  go_enter Tryz.func76, Tryz.ntmps76
  go_wp2_with fail
  rw [← hw1]
  clear hw1
  have hr' : (ae != 0) = true := by simpa using hr
  have HA := Lib.hid hav
  clear hr hav
  go_quiet ((go_at_call 91; (try rw [u8_wrap d d0 d1]); exact quiet_left (c_Apply' d (M.reg y) (M.reg z) _ HA.out)))
  go_wp2_with fail
  go_ret
  exact ⟨rfl, H1.out.matE rfl, by repeat' (first | with_reducible (first | assumption | apply Fr.refl | apply Fr.drew | apply Fr.drewN | apply Fr.alloc | apply Fr.set) | exact .inl rfl | exact .inr (.inl rfl) | exact .inr (.inr rfl) | (apply Fr.of; assumption))⟩
theorem ex_9b (h : MOn w P M vm vs vc vi vo sv) (x y z : Nat) (hx : x < 16) (hy : y < 16) (hz : z < 16) (d : Int) (d0 : 0 ≤ d) (d1 : d ≤ 255) (av : Int) (hav : apply d (M.reg y) (M.reg z) = (av, 0)) :
    Calls Tryz.prog 76 #[.pointer (some ⟨P.b, P.off, none⟩), .agg #[.int .u8 (9), .int .i64 ((x : Nat)), .int .i64 ((y : Nat)), .int .i64 ((z : Nat)), .int .i64 (d)]] w fun e w' => e = .returned (.int .i64 0) ∧ MAt w' P (M.setR x (xor64 (M.reg x) av)) ∧ Fr P.O w w' := by
  obtain ⟨w1, hw1, h1, hbw, KI, hlt, hlt0, hne0, hne⟩ := h.al 102 #[.int .u8 (9), .int .i64 ((x : Nat)), .int .i64 ((y : Nat)), .int .i64 ((z : Nat)), .int .i64 (d)]; have H1 := Lib.hid h1; obtain ⟨er_x, zr_x, i0_x, i1_x⟩ := h1.rg x hx; obtain ⟨er_y, zr_y, i0_y, i1_y⟩ := h1.rg y hy; obtain ⟨er_z, zr_z, i0_z, i1_z⟩ := h1.rg z hz; obtain ⟨zI, TI, FI⟩ := KI.open_; obtain ⟨b, tt, pre, post, off, gm, gs, fx⟩ := P; dsimp only at *; clear h h1 KI
  go_enter Tryz.func76, Tryz.ntmps76
  go_wp2_with fail
  rw [← hw1]
  clear hw1
  have HA := Lib.hid hav
  clear hav
  go_quiet ((go_at_call 91; (try rw [u8_wrap d d0 d1]); exact quiet_left (c_Apply' d (M.reg y) (M.reg z) _ HA.out)))
  go_wp2_with fail
  go_region
  go_wp2_with fail
  go_ret
  exact ⟨rfl, (H1.out.setReg x hx _).matE rfl, by repeat' (first | with_reducible (first | assumption | apply Fr.refl | apply Fr.drew | apply Fr.drewN | apply Fr.alloc | apply Fr.set) | exact .inl rfl | exact .inr (.inl rfl) | exact .inr (.inr rfl) | (apply Fr.of; assumption))⟩
end Go.Proofs.YtbijhlgdilkopaaGreatDoor

/- The walks of package cpu: execute at the opcodes that call. -/
set_option linter.unusedVariables false
namespace Go.Proofs.YtbijhlgdilkopaaGreatDoor
open Go.RowKit Bk
variable {w : World} {D : Nat → Prop} {P : Pl} {M : Mach} {vm vs vc vi vo : Value} {sv : List Value}

/-- What a call on the machine gives: an error number; the machine; what else may have changed. -/
def OnM (P : Pl) (x : Int × Mach) (w : World) (e : Ending) (w' : World) : Prop := e = .returned (.int .i64 x.1) ∧ MAt w' P x.2 ∧ Fr P.O w w'
theorem OnM.mk {P : Pl} {x : Int × Mach} {w w' : World} {e : Ending} {n : Int} {N : Mach} (hx : x = (n, N)) (he : e = .returned (.int .i64 n)) (hm : MAt w' P N) (hf : Fr P.O w w') : OnM P x w e w' := by subst hx; exact ⟨he, hm, hf⟩
theorem calls_onM {f : FuncId} {args : Array Value} {P : Pl} {x : Int × Mach} {w : World} {n : Int} {N : Mach} (hx : x = (n, N)) (h : Calls Tryz.prog f args w fun e w' => e = .returned (.int .i64 n) ∧ MAt w' P N ∧ Fr P.O w w') : Calls Tryz.prog f args w (OnM P x w) :=
  h.mono fun e w' ⟨a, b, c⟩ => OnM.mk hx a b c

theorem c_stack (h : MOn w P M vm vs vc vi vo sv) (hB : MBd M) (op : Int) (hop : op = 12 ∨ op = 13 ∨ op = 14 ∨ op = 15) (a : Nat) (ha : a < 16) (i c d : Int) (i0 : 0 ≤ i) (i1 : i ≤ 16384) :
    Calls Tryz.prog 95 #[.pointer (some ⟨P.b, P.off, none⟩), .agg #[.int .u8 (op), .int .i64 ((a : Nat)), .int .i64 (i), .int .i64 (c), .int .i64 (d)]] w (OnM P (stack M ⟨op, a, i, c, d⟩) w) := by
  by_cases hk : (M.s.length : Int) ≤ find M i
  · exact calls_onM (by unfold stack; rw [if_pos hk]) (stack_out h hB op a i c d i0 i1 hk)
  obtain ⟨f, hf⟩ : ∃ f : Nat, find M i = f := ⟨(find M i).toNat, by have := hB.s0; unfold find; split <;> omega⟩
  have hfl : f < M.s.length := by omega
  rcases hop with rfl | rfl | rfl | rfl
  · by_cases hz : f ≠ 0 ∧ 1000 ≤ (M.stk f).length
    · refine calls_onM ?_ (stack_full h hB a f ha i c d i0 i1 hf hfl hz.1 hz.2)
      unfold stack; simp only [hf]; rw [if_neg (by omega), if_neg (by omega), if_pos trivial, if_pos ⟨by omega, hz.2⟩]
    · refine calls_onM ?_ (stack_push h hB a f ha i c d i0 i1 hf hfl (by omega))
      unfold stack; simp only [hf]; rw [if_neg (by omega), if_neg (by omega), if_pos trivial, if_neg (by omega)]
  · by_cases he : (M.stk f).length = 0
    · refine calls_onM ?_ (stack_empty13 h hB a f ha i c d i0 i1 hf hfl he)
      unfold stack; simp only [hf]; rw [if_neg (by omega), if_neg (by omega), if_neg (by omega), if_pos he]
    · by_cases hr : M.reg a = 0
      · refine calls_onM ?_ (stack_pop h hB a f ha i c d i0 i1 hf hfl he hr)
        unfold stack; simp only [hf]; rw [if_neg (by omega), if_neg (by omega), if_neg (by omega), if_neg he, if_neg (by omega), if_neg (by omega)]
      · refine calls_onM ?_ (stack_clear h hB a f ha i c d i0 i1 hf hfl he hr)
        unfold stack; simp only [hf]; rw [if_neg (by omega), if_neg (by omega), if_neg (by omega), if_neg he, if_neg (by omega), if_pos hr]
  · by_cases he : (M.stk f).length = 0
    · refine calls_onM ?_ (stack_empty14 h hB a f ha i c d i0 i1 hf hfl he)
      unfold stack; simp only [hf]; rw [if_neg (by omega), if_neg (by omega), if_neg (by omega), if_pos he]
    · refine calls_onM ?_ (stack_top h hB a f ha i c d i0 i1 hf hfl he)
      unfold stack; simp only [hf]; rw [if_neg (by omega), if_neg (by omega), if_neg (by omega), if_neg he, if_pos trivial]
  · refine calls_onM ?_ (stack_size h hB a f ha i c d i0 i1 hf hfl)
    unfold stack; simp only [hf]; rw [if_neg (by omega), if_pos trivial]

theorem c_transfer (h : MOn w P M vm vs vc vi vo sv) (hB : MBd M) (op : Int) (hop : op = 17 ∨ op = 18 ∨ op = 19 ∨ op = 20) (a : Nat) (ha : a < 16) (i c d : Int) :
    Calls Tryz.prog 96 #[.pointer (some ⟨P.b, P.off, none⟩), .agg #[.int .u8 (op), .int .i64 ((a : Nat)), .int .i64 (i), .int .i64 (c), .int .i64 (d)]] w (OnM P (transfer M ⟨op, a, i, c, d⟩) w) := by
  rcases hop with rfl | rfl | rfl | rfl
  · by_cases h0 : M.inp.length = 0
    · refine calls_onM ?_ (read_none h hB a ha i c d h0)
      unfold transfer; simp only; rw [if_neg (by omega), if_pos (by first | omega | (simp; omega) | (simp_all; done) | (simp_all; omega))]
    · by_cases hr : M.reg a = 0
      · refine calls_onM ?_ (read_ok h hB a ha i c d h0 hr)
        unfold transfer; simp only; rw [if_neg (by omega), if_neg (by omega), if_neg (by omega), if_pos trivial]
      · refine calls_onM ?_ (read_clear h hB a ha i c d h0 hr)
        unfold transfer; simp only; rw [if_neg (by omega), if_neg (by omega), if_pos ⟨by simp, hr⟩]
  · by_cases hf : M.inp.length < 4096
    · refine calls_onM ?_ (unread_ok h hB a ha i c d hf)
      unfold transfer; simp only; rw [if_neg (by omega), if_neg (by omega), if_neg (by omega), if_neg (by omega), if_pos trivial]
    · refine calls_onM ?_ (unread_full h hB a ha i c d (by omega))
      unfold transfer; simp only; rw [if_pos (by first | omega | (simp; omega) | (simp_all; done) | (simp_all; omega))]
  · by_cases hf : M.out.length < 4096
    · refine calls_onM ?_ (write_ok h hB a ha i c d hf)
      unfold transfer; simp only; rw [if_neg (by omega), if_neg (by omega), if_neg (by omega), if_neg (by omega), if_neg (by omega), if_pos trivial]
    · refine calls_onM ?_ (write_full h hB a ha i c d (by omega))
      unfold transfer; simp only; rw [if_pos (by first | omega | (simp; omega) | (simp_all; done) | (simp_all; omega))]
  · by_cases h0 : M.out.length = 0
    · refine calls_onM ?_ (unwrite_none h hB a ha i c d h0)
      unfold transfer; simp only; rw [if_neg (by omega), if_pos (by first | omega | (simp; omega) | (simp_all; done) | (simp_all; omega))]
    · by_cases hr : M.reg a = 0
      · refine calls_onM ?_ (unwrite_ok h hB a ha i c d h0 hr)
        unfold transfer; simp only; rw [if_neg (by omega), if_neg (by omega), if_neg (by omega), if_neg (by omega), if_neg (by omega), if_neg (by omega)]
      · refine calls_onM ?_ (unwrite_clear h hB a ha i c d h0 hr)
        unfold transfer; simp only; rw [if_neg (by omega), if_neg (by omega), if_pos ⟨by simp, hr⟩]
end Go.Proofs.YtbijhlgdilkopaaGreatDoor
