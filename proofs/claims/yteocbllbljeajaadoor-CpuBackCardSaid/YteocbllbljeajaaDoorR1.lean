/- Several texts in one: RcD RcE RcF RcN. -/
import Derived.Test.YteocbllbljeajaaDoorRX
import Derived.BigRegion
set_option linter.unusedVariables false
set_option linter.unusedSimpArgs false
/- straight: the opcodes that work on registers. -/
set_option maxRecDepth 100000
set_option maxHeartbeats 8000000
set_option maxRecDepth 100000
set_option linter.unusedVariables false
set_option linter.unusedSimpArgs false
namespace Go.Proofs.YteocbllbljeajaaDoor
open Go.RowKit Bk
variable {w : World} {D : Nat → Prop} {P : Pl} {M : Mach} {vm vs vc vi vo : Value} {sv : List Value}
theorem rs_1 (h : MOn w P M vm vs vc vi vo sv) (x y : Nat) (hx : x < 16) (hy : y < 16) (c d : Int) :
    SC w P (1) ((x : Nat)) ((y : Nat)) (c) (d) ((0, M.setR x (wrap64 (M.reg x + M.reg y)))) := by
  unfold SC
  have hgm0 := h.gm; have hgs0 := h.gs
  obtain ⟨w1, hw1, h1, hbw, KI, hlt, hlt0, hne0, hne⟩ := h.al 42 #[.int .u8 (1), .int .i64 ((x : Nat)), .int .i64 ((y : Nat)), .int .i64 (c), .int .i64 (d)]; have H1 := Lib.hid h1; obtain ⟨er_x, zr_x, i0_x, i1_x⟩ := h1.rg x hx; obtain ⟨er_y, zr_y, i0_y, i1_y⟩ := h1.rg y hy; obtain ⟨zI, TI, FI⟩ := KI.open_; obtain ⟨b, tt, pre, post, off, gm, gs, fx⟩ := P; dsimp only at *; clear h h1 KI
  go_enter Tryd.func35, Tryd.ntmps35
  go_wp2_with fail
  rw [← hw1]
  clear hw1
  go_region
  go_wp2_with fail
  go_ret
  exact ⟨rfl, (H1.out.setReg x hx _).matE rfl, by repeat' (first | with_reducible (first | assumption | apply Fr.refl | apply Fr.drew | apply Fr.drewN | apply Fr.alloc | apply Fr.set) | exact .inl rfl | exact .inr (.inl rfl) | exact .inr (.inr rfl) | (apply Fr.of; assumption))⟩
theorem rs_2 (h : MOn w P M vm vs vc vi vo sv) (x y : Nat) (hx : x < 16) (hy : y < 16) (c d : Int) :
    SC w P (2) ((x : Nat)) ((y : Nat)) (c) (d) ((0, M.setR x (wrap64 (M.reg x - M.reg y)))) := by
  unfold SC
  have hgm0 := h.gm; have hgs0 := h.gs
  obtain ⟨w1, hw1, h1, hbw, KI, hlt, hlt0, hne0, hne⟩ := h.al 42 #[.int .u8 (2), .int .i64 ((x : Nat)), .int .i64 ((y : Nat)), .int .i64 (c), .int .i64 (d)]; have H1 := Lib.hid h1; obtain ⟨er_x, zr_x, i0_x, i1_x⟩ := h1.rg x hx; obtain ⟨er_y, zr_y, i0_y, i1_y⟩ := h1.rg y hy; obtain ⟨zI, TI, FI⟩ := KI.open_; obtain ⟨b, tt, pre, post, off, gm, gs, fx⟩ := P; dsimp only at *; clear h h1 KI
  go_enter Tryd.func35, Tryd.ntmps35
  go_wp2_with fail
  rw [← hw1]
  clear hw1
  go_region
  go_wp2_with fail
  go_ret
  exact ⟨rfl, (H1.out.setReg x hx _).matE rfl, by repeat' (first | with_reducible (first | assumption | apply Fr.refl | apply Fr.drew | apply Fr.drewN | apply Fr.alloc | apply Fr.set) | exact .inl rfl | exact .inr (.inl rfl) | exact .inr (.inr rfl) | (apply Fr.of; assumption))⟩
theorem rs_3 (h : MOn w P M vm vs vc vi vo sv) (x y : Nat) (hx : x < 16) (hy : y < 16) (c d : Int) :
    SC w P (3) ((x : Nat)) ((y : Nat)) (c) (d) ((0, M.setR x (xor64 (M.reg x) (M.reg y)))) := by
  unfold SC
  have hgm0 := h.gm; have hgs0 := h.gs
  obtain ⟨w1, hw1, h1, hbw, KI, hlt, hlt0, hne0, hne⟩ := h.al 42 #[.int .u8 (3), .int .i64 ((x : Nat)), .int .i64 ((y : Nat)), .int .i64 (c), .int .i64 (d)]; have H1 := Lib.hid h1; obtain ⟨er_x, zr_x, i0_x, i1_x⟩ := h1.rg x hx; obtain ⟨er_y, zr_y, i0_y, i1_y⟩ := h1.rg y hy; obtain ⟨zI, TI, FI⟩ := KI.open_; obtain ⟨b, tt, pre, post, off, gm, gs, fx⟩ := P; dsimp only at *; clear h h1 KI
  go_enter Tryd.func35, Tryd.ntmps35
  go_wp2_with fail
  rw [← hw1]
  clear hw1
  go_region
  go_wp2_with fail
  go_ret
  exact ⟨rfl, (H1.out.setReg x hx _).matE rfl, by repeat' (first | with_reducible (first | assumption | apply Fr.refl | apply Fr.drew | apply Fr.drewN | apply Fr.alloc | apply Fr.set) | exact .inl rfl | exact .inr (.inl rfl) | exact .inr (.inr rfl) | (apply Fr.of; assumption))⟩
theorem rs_4 (h : MOn w P M vm vs vc vi vo sv) (x : Nat) (hx : x < 16) (i c d : Int) :
    SC w P (4) ((x : Nat)) (i) (c) (d) ((0, M.setR x (wrap64 (M.reg x + i)))) := by
  unfold SC
  have hgm0 := h.gm; have hgs0 := h.gs
  obtain ⟨w1, hw1, h1, hbw, KI, hlt, hlt0, hne0, hne⟩ := h.al 42 #[.int .u8 (4), .int .i64 ((x : Nat)), .int .i64 (i), .int .i64 (c), .int .i64 (d)]; have H1 := Lib.hid h1; obtain ⟨er_x, zr_x, i0_x, i1_x⟩ := h1.rg x hx; obtain ⟨zI, TI, FI⟩ := KI.open_; obtain ⟨b, tt, pre, post, off, gm, gs, fx⟩ := P; dsimp only at *; clear h h1 KI
  go_enter Tryd.func35, Tryd.ntmps35
  go_wp2_with fail
  rw [← hw1]
  clear hw1
  go_region
  go_wp2_with fail
  go_ret
  exact ⟨rfl, (H1.out.setReg x hx _).matE rfl, by repeat' (first | with_reducible (first | assumption | apply Fr.refl | apply Fr.drew | apply Fr.drewN | apply Fr.alloc | apply Fr.set) | exact .inl rfl | exact .inr (.inl rfl) | exact .inr (.inr rfl) | (apply Fr.of; assumption))⟩
theorem rs_5 (h : MOn w P M vm vs vc vi vo sv) (x : Nat) (hx : x < 16) (i c d : Int) :
    SC w P (5) ((x : Nat)) (i) (c) (d) ((0, M.setR x (wrap64 (M.reg x - i)))) := by
  unfold SC
  have hgm0 := h.gm; have hgs0 := h.gs
  obtain ⟨w1, hw1, h1, hbw, KI, hlt, hlt0, hne0, hne⟩ := h.al 42 #[.int .u8 (5), .int .i64 ((x : Nat)), .int .i64 (i), .int .i64 (c), .int .i64 (d)]; have H1 := Lib.hid h1; obtain ⟨er_x, zr_x, i0_x, i1_x⟩ := h1.rg x hx; obtain ⟨zI, TI, FI⟩ := KI.open_; obtain ⟨b, tt, pre, post, off, gm, gs, fx⟩ := P; dsimp only at *; clear h h1 KI
  go_enter Tryd.func35, Tryd.ntmps35
  go_wp2_with fail
  rw [← hw1]
  clear hw1
  go_region
  go_wp2_with fail
  go_ret
  exact ⟨rfl, (H1.out.setReg x hx _).matE rfl, by repeat' (first | with_reducible (first | assumption | apply Fr.refl | apply Fr.drew | apply Fr.drewN | apply Fr.alloc | apply Fr.set) | exact .inl rfl | exact .inr (.inl rfl) | exact .inr (.inr rfl) | (apply Fr.of; assumption))⟩
theorem rs_6 (h : MOn w P M vm vs vc vi vo sv) (x : Nat) (hx : x < 16) (i c d : Int) :
    SC w P (6) ((x : Nat)) (i) (c) (d) ((0, M.setR x (xor64 (M.reg x) i))) := by
  unfold SC
  have hgm0 := h.gm; have hgs0 := h.gs
  obtain ⟨w1, hw1, h1, hbw, KI, hlt, hlt0, hne0, hne⟩ := h.al 42 #[.int .u8 (6), .int .i64 ((x : Nat)), .int .i64 (i), .int .i64 (c), .int .i64 (d)]; have H1 := Lib.hid h1; obtain ⟨er_x, zr_x, i0_x, i1_x⟩ := h1.rg x hx; obtain ⟨zI, TI, FI⟩ := KI.open_; obtain ⟨b, tt, pre, post, off, gm, gs, fx⟩ := P; dsimp only at *; clear h h1 KI
  go_enter Tryd.func35, Tryd.ntmps35
  go_wp2_with fail
  rw [← hw1]
  clear hw1
  go_region
  go_wp2_with fail
  go_ret
  exact ⟨rfl, (H1.out.setReg x hx _).matE rfl, by repeat' (first | with_reducible (first | assumption | apply Fr.refl | apply Fr.drew | apply Fr.drewN | apply Fr.alloc | apply Fr.set) | exact .inl rfl | exact .inr (.inl rfl) | exact .inr (.inr rfl) | (apply Fr.of; assumption))⟩
theorem rs_8 (h : MOn w P M vm vs vc vi vo sv) (x : Nat) (hx : x < 16) (i c d : Int) :
    SC w P (8) ((x : Nat)) (i) (c) (d) ((0, M.setR x (wrap64 (-M.reg x)))) := by
  unfold SC
  have hgm0 := h.gm; have hgs0 := h.gs
  obtain ⟨w1, hw1, h1, hbw, KI, hlt, hlt0, hne0, hne⟩ := h.al 42 #[.int .u8 (8), .int .i64 ((x : Nat)), .int .i64 (i), .int .i64 (c), .int .i64 (d)]; have H1 := Lib.hid h1; obtain ⟨er_x, zr_x, i0_x, i1_x⟩ := h1.rg x hx; obtain ⟨zI, TI, FI⟩ := KI.open_; obtain ⟨b, tt, pre, post, off, gm, gs, fx⟩ := P; dsimp only at *; clear h h1 KI
  go_enter Tryd.func35, Tryd.ntmps35
  go_wp2_with fail
  rw [← hw1]
  clear hw1
  go_region
  go_wp2_with fail
  go_ret
  exact ⟨rfl, (H1.out.setReg x hx _).matE rfl, by repeat' (first | with_reducible (first | assumption | apply Fr.refl | apply Fr.drew | apply Fr.drewN | apply Fr.alloc | apply Fr.set) | exact .inl rfl | exact .inr (.inl rfl) | exact .inr (.inr rfl) | (apply Fr.of; assumption))⟩
theorem rs_0 (h : MOn w P M vm vs vc vi vo sv) (x i c d : Int) :
    SC w P (0) ((x : Int)) (i) (c) (d) ((0, M)) := by
  unfold SC
  have hgm0 := h.gm; have hgs0 := h.gs
  obtain ⟨w1, hw1, h1, hbw, KI, hlt, hlt0, hne0, hne⟩ := h.al 42 #[.int .u8 (0), .int .i64 ((x : Int)), .int .i64 (i), .int .i64 (c), .int .i64 (d)]; have H1 := Lib.hid h1; obtain ⟨zI, TI, FI⟩ := KI.open_; obtain ⟨b, tt, pre, post, off, gm, gs, fx⟩ := P; dsimp only at *; clear h h1 KI
  go_enter Tryd.func35, Tryd.ntmps35
  go_wp2_with fail
  go_ret
  rw [← hw1]
  exact ⟨rfl, H1.out.matE rfl, by repeat' (first | with_reducible (first | assumption | apply Fr.refl | apply Fr.drew | apply Fr.drewN | apply Fr.alloc | apply Fr.set) | exact .inl rfl | exact .inr (.inl rfl) | exact .inr (.inr rfl) | (apply Fr.of; assumption))⟩
theorem rs_21a (h : MOn w P M vm vs vc vi vo sv) (x : Nat) (hx : x < 16) (i c d : Int) (hr : M.reg x ≠ 0) :
    SC w P (21) ((x : Nat)) (i) (c) (d) ((i, M)) := by
  unfold SC
  have hgm0 := h.gm; have hgs0 := h.gs
  obtain ⟨w1, hw1, h1, hbw, KI, hlt, hlt0, hne0, hne⟩ := h.al 42 #[.int .u8 (21), .int .i64 ((x : Nat)), .int .i64 (i), .int .i64 (c), .int .i64 (d)]; have H1 := Lib.hid h1; obtain ⟨er_x, zr_x, i0_x, i1_x⟩ := h1.rg x hx; obtain ⟨zI, TI, FI⟩ := KI.open_; obtain ⟨b, tt, pre, post, off, gm, gs, fx⟩ := P; dsimp only at *; clear h h1 KI
  go_enter Tryd.func35, Tryd.ntmps35
  go_wp2_with fail
  rw [← hw1]
  clear hw1
  have hr' : (M.reg x != 0) = true := by simpa using hr
  clear hr
  go_quiet (fail)
  go_wp2_with fail
  go_ret
  exact ⟨rfl, H1.out.matE rfl, by repeat' (first | with_reducible (first | assumption | apply Fr.refl | apply Fr.drew | apply Fr.drewN | apply Fr.alloc | apply Fr.set) | exact .inl rfl | exact .inr (.inl rfl) | exact .inr (.inr rfl) | (apply Fr.of; assumption))⟩
theorem rs_21b (h : MOn w P M vm vs vc vi vo sv) (x : Nat) (hx : x < 16) (i c d : Int) (hr : M.reg x = 0) :
    SC w P (21) ((x : Nat)) (i) (c) (d) ((0, M)) := by
  unfold SC
  have hgm0 := h.gm; have hgs0 := h.gs
  obtain ⟨w1, hw1, h1, hbw, KI, hlt, hlt0, hne0, hne⟩ := h.al 42 #[.int .u8 (21), .int .i64 ((x : Nat)), .int .i64 (i), .int .i64 (c), .int .i64 (d)]; have H1 := Lib.hid h1; obtain ⟨er_x, zr_x, i0_x, i1_x⟩ := h1.rg x hx; obtain ⟨zI, TI, FI⟩ := KI.open_; obtain ⟨b, tt, pre, post, off, gm, gs, fx⟩ := P; dsimp only at *; clear h h1 KI
  go_enter Tryd.func35, Tryd.ntmps35
  go_wp2_with fail
  rw [← hw1]
  clear hw1
  rw [hr] at er_x
  clear hr
  go_quiet (fail)
  go_wp2_with fail
  go_ret
  exact ⟨rfl, H1.out.matE rfl, by repeat' (first | with_reducible (first | assumption | apply Fr.refl | apply Fr.drew | apply Fr.drewN | apply Fr.alloc | apply Fr.set) | exact .inl rfl | exact .inr (.inl rfl) | exact .inr (.inr rfl) | (apply Fr.of; assumption))⟩
end Go.Proofs.YteocbllbljeajaaDoor

/- straight: swap, calc, mem, idx. -/
set_option maxRecDepth 100000
set_option maxHeartbeats 8000000
set_option maxRecDepth 100000
set_option linter.unusedVariables false
set_option linter.unusedSimpArgs false
namespace Go.Proofs.YteocbllbljeajaaDoor
open Go.RowKit Bk
variable {w : World} {D : Nat → Prop} {P : Pl} {M : Mach} {vm vs vc vi vo : Value} {sv : List Value}
theorem rs_7 (h : MOn w P M vm vs vc vi vo sv) (x y : Nat) (hx : x < 16) (hy : y < 16) (c d : Int) :
    SC w P (7) ((x : Nat)) ((y : Nat)) (c) (d) ((0, (M.setR x (M.reg y)).setR y (M.reg x))) := by
  unfold SC
  have hgm0 := h.gm; have hgs0 := h.gs
  obtain ⟨w1, hw1, h1, hbw, KI, hlt, hlt0, hne0, hne⟩ := h.al 42 #[.int .u8 (7), .int .i64 ((x : Nat)), .int .i64 ((y : Nat)), .int .i64 (c), .int .i64 (d)]; have H1 := Lib.hid h1; obtain ⟨er_x, zr_x, i0_x, i1_x⟩ := h1.rg x hx; obtain ⟨er_y, zr_y, i0_y, i1_y⟩ := h1.rg y hy; obtain ⟨zI, TI, FI⟩ := KI.open_; obtain ⟨b, tt, pre, post, off, gm, gs, fx⟩ := P; dsimp only at *; clear h h1 KI
  go_enter Tryd.func35, Tryd.ntmps35
  go_wp2_with fail
  rw [← hw1]
  clear hw1
  go_quiet (fail)
  go_wp2_with fail
  refine wp_nameY ?_
  intro wq hwq
  have HQ := Lib.hid (show MOn wq ⟨b, tt, pre, post, off, gm, gs, fx⟩ M vm vs vc vi vo sv from by rw [hwq]; exact H1.out.heap rfl)
  have TQ : ∀ ix, wq.cell? ⟨w.heap.size, ix, none⟩ = #[Value.int .u8 7, .int .i64 x, .int .i64 y, .int .i64 c, .int .i64 d][ix]? := by rw [hwq]; exact TI
  have q1_x : wq.cell? ⟨b, off + 2 + x, none⟩ = some (.int .i64 (M.reg x)) := by rw [hwq]; exact er_x
  have q2_x : wq.frozen? ⟨b, off + 2 + x, none⟩ = false := by rw [hwq]; exact zr_x
  have q1_y : wq.cell? ⟨b, off + 2 + y, none⟩ = some (.int .i64 (M.reg y)) := by rw [hwq]; exact er_y
  have q2_y : wq.frozen? ⟨b, off + 2 + y, none⟩ = false := by rw [hwq]; exact zr_y
  have HF : Hid (Fr (Pl.O ⟨b, tt, pre, post, off, gm, gs, fx⟩) w wq) := Lib.hid (by rw [hwq]; exact (Fr.of hbw).drewN _)
  clear hwq er_x zr_x er_y zr_y zI TI FI hbw H1
  obtain ⟨vz, hvz⟩ := cell?_setCell_some (w := wq) (p := ⟨b, off + 2 + x, none⟩) (x := .int .i64 (M.reg y)) (q := ⟨b, off + 2 + y, none⟩) (v := .int .i64 (M.reg y)) q1_y
  go_region
  go_wp2_with fail
  go_region
  go_wp2_with fail
  go_ret
  exact ⟨rfl, ((HQ.out.setReg x hx _).setReg y hy _).matE rfl, by have HF := HF.out; repeat' (first | with_reducible (first | assumption | apply Fr.refl | apply Fr.drew | apply Fr.drewN | apply Fr.alloc | apply Fr.set) | exact .inl rfl | exact .inr (.inl rfl) | exact .inr (.inr rfl) | (apply Fr.of; assumption))⟩
theorem rs_9a (h : MOn w P M vm vs vc vi vo sv) (x y z : Nat) (hx : x < 16) (hy : y < 16) (hz : z < 16) (d : Int) (d0 : 8 ≤ d) (d1 : d ≤ 23) (av ae : Int) (hav : apply d (M.reg y) (M.reg z) = (av, ae)) (hr : ae ≠ 0) :
    SC w P (9) ((x : Nat)) ((y : Nat)) ((z : Nat)) (d) ((ae, M)) := by
  unfold SC
  have hgm0 := h.gm; have hgs0 := h.gs
  obtain ⟨w1, hw1, h1, hbw, KI, hlt, hlt0, hne0, hne⟩ := h.al 42 #[.int .u8 (9), .int .i64 ((x : Nat)), .int .i64 ((y : Nat)), .int .i64 ((z : Nat)), .int .i64 (d)]; have H1 := Lib.hid h1; obtain ⟨er_x, zr_x, i0_x, i1_x⟩ := h1.rg x hx; obtain ⟨er_y, zr_y, i0_y, i1_y⟩ := h1.rg y hy; obtain ⟨er_z, zr_z, i0_z, i1_z⟩ := h1.rg z hz; obtain ⟨zI, TI, FI⟩ := KI.open_; obtain ⟨b, tt, pre, post, off, gm, gs, fx⟩ := P; dsimp only at *; clear h h1 KI
  go_enter Tryd.func35, Tryd.ntmps35
  go_wp2_with fail
  rw [← hw1]
  clear hw1
  have hr' : (ae != 0) = true := by simpa using hr
  have HA := Lib.hid hav
  clear hr hav
  go_quiet ((go_at_call 60; (try rw [u8_wrap d (by omega) (by omega)]); exact quiet_left (c_RApply' d (M.reg y) (M.reg z) _ ⟨d0, d1⟩ HA.out)))
  go_wp2_with fail
  go_ret
  exact ⟨rfl, H1.out.matE rfl, by repeat' (first | with_reducible (first | assumption | apply Fr.refl | apply Fr.drew | apply Fr.drewN | apply Fr.alloc | apply Fr.set) | exact .inl rfl | exact .inr (.inl rfl) | exact .inr (.inr rfl) | (apply Fr.of; assumption))⟩
theorem rs_9b (h : MOn w P M vm vs vc vi vo sv) (x y z : Nat) (hx : x < 16) (hy : y < 16) (hz : z < 16) (d : Int) (d0 : 8 ≤ d) (d1 : d ≤ 23) (av : Int) (hav : apply d (M.reg y) (M.reg z) = (av, 0)) :
    SC w P (9) ((x : Nat)) ((y : Nat)) ((z : Nat)) (d) ((0, M.setR x (xor64 (M.reg x) av))) := by
  unfold SC
  have hgm0 := h.gm; have hgs0 := h.gs
  obtain ⟨w1, hw1, h1, hbw, KI, hlt, hlt0, hne0, hne⟩ := h.al 42 #[.int .u8 (9), .int .i64 ((x : Nat)), .int .i64 ((y : Nat)), .int .i64 ((z : Nat)), .int .i64 (d)]; have H1 := Lib.hid h1; obtain ⟨er_x, zr_x, i0_x, i1_x⟩ := h1.rg x hx; obtain ⟨er_y, zr_y, i0_y, i1_y⟩ := h1.rg y hy; obtain ⟨er_z, zr_z, i0_z, i1_z⟩ := h1.rg z hz; obtain ⟨zI, TI, FI⟩ := KI.open_; obtain ⟨b, tt, pre, post, off, gm, gs, fx⟩ := P; dsimp only at *; clear h h1 KI
  go_enter Tryd.func35, Tryd.ntmps35
  go_wp2_with fail
  rw [← hw1]
  clear hw1
  have HA := Lib.hid hav
  clear hav
  go_quiet ((go_at_call 60; (try rw [u8_wrap d (by omega) (by omega)]); exact quiet_left (c_RApply' d (M.reg y) (M.reg z) _ ⟨d0, d1⟩ HA.out)))
  go_wp2_with fail
  go_region
  go_wp2_with fail
  go_ret
  exact ⟨rfl, (H1.out.setReg x hx _).matE rfl, by repeat' (first | with_reducible (first | assumption | apply Fr.refl | apply Fr.drew | apply Fr.drewN | apply Fr.alloc | apply Fr.set) | exact .inl rfl | exact .inr (.inl rfl) | exact .inr (.inr rfl) | (apply Fr.of; assumption))⟩
end Go.Proofs.YteocbllbljeajaaDoor

/- straight: mem, idx. -/
set_option maxRecDepth 100000
set_option maxHeartbeats 8000000
set_option maxRecDepth 100000
set_option linter.unusedVariables false
set_option linter.unusedSimpArgs false
namespace Go.Proofs.YteocbllbljeajaaDoor
open Go.RowKit Bk
variable {w : World} {D : Nat → Prop} {P : Pl} {M : Mach} {vm vs vc vi vo : Value} {sv : List Value}
theorem rs_10a (h : MOn w P M vm vs vc vi vo sv) (x : Nat) (hx : x < 16) (i c d : Int) (i0 : 0 ≤ i) (i1 : i ≤ 16384) (f0 : 0 ≤ M.fp) (f1 : M.fp ≤ 16384) (hat : (M.m.length : Int) ≤ M.fp + i) :
    SC w P (10) ((x : Nat)) (i) (c) (d) ((12, M)) := by
  unfold SC
  have hgm0 := h.gm; have hgs0 := h.gs
  obtain ⟨w1, hw1, h1, hbw, KI, hlt, hlt0, hne0, hne⟩ := h.al 42 #[.int .u8 (10), .int .i64 ((x : Nat)), .int .i64 (i), .int .i64 (c), .int .i64 (d)]; have H1 := Lib.hid h1; obtain ⟨er_x, zr_x, i0_x, i1_x⟩ := h1.rg x hx; obtain ⟨zI, TI, FI⟩ := KI.open_; obtain ⟨b, tt, pre, post, off, gm, gs, fx⟩ := P; dsimp only at *; clear h h1 KI
  have e21 := H1.out.c21
  have e18 := H1.out.c18
  dsimp only at e21 e18
  have z21 := H1.out.frozen (off + 21)
  obtain ⟨Am, cpm, hvm, _⟩ := H1.out.m
  rw [intCells_length] at hvm
  rw [hvm] at e18
  clear hvm
  go_enter Tryd.func35, Tryd.ntmps35
  go_wp2_with fail
  rw [← hw1]
  clear hw1
  go_quiet (fail)
  go_wp2_with fail
  go_ret
  exact ⟨rfl, H1.out.matE rfl, by repeat' (first | with_reducible (first | assumption | apply Fr.refl | apply Fr.drew | apply Fr.drewN | apply Fr.alloc | apply Fr.set) | exact .inl rfl | exact .inr (.inl rfl) | exact .inr (.inr rfl) | (apply Fr.of; assumption))⟩
theorem rs_10b (h : MOn w P M vm vs vc vi vo sv) (x : Nat) (hx : x < 16) (i c d : Int) (i0 : 0 ≤ i) (i1 : i ≤ 16384) (f0 : 0 ≤ M.fp) (f1 : M.fp ≤ 16384) (k : Nat) (hk : k < M.m.length) (hat : M.fp + i = k) :
    SC w P (10) ((x : Nat)) (i) (c) (d) ((0, (M.setM k (M.reg x)).setR x (M.m.getD k 0))) := by
  unfold SC
  have hgm0 := h.gm; have hgs0 := h.gs
  obtain ⟨w1, hw1, h1, hbw, KI, hlt, hlt0, hne0, hne⟩ := h.al 42 #[.int .u8 (10), .int .i64 ((x : Nat)), .int .i64 (i), .int .i64 (c), .int .i64 (d)]; have H1 := Lib.hid h1; obtain ⟨er_x, zr_x, i0_x, i1_x⟩ := h1.rg x hx; obtain ⟨zI, TI, FI⟩ := KI.open_; obtain ⟨b, tt, pre, post, off, gm, gs, fx⟩ := P; dsimp only at *; clear h h1 KI
  have e21 := H1.out.c21
  have e18 := H1.out.c18
  dsimp only at e21 e18
  have z21 := H1.out.frozen (off + 21)
  obtain ⟨cpm, hvm, hcpm, hcells, hfrz⟩ := H1.out.m.form (by rw [intCells_length]; omega)
  rw [intCells_length] at hvm
  have ek : w1.cell? ⟨gm, k, none⟩ = some (.int .i64 (M.m.getD k 0)) := hcells k _ (intCells_get _ _ hk)
  have zk : w1.frozen? ⟨gm, k, none⟩ = false := hfrz k
  rw [hvm] at e18
  have hgmlt : gm < w1.heap.size := H1.out.gm
  have hgne : gm ≠ b := (H1.out.am (by omega)).1
  have hgne' : b ≠ gm := Ne.symm hgne
  have hgI : gm ≠ w.heap.size := by omega
  have k1 : (0 : Int) ≤ (k : Int) := by omega
  have k2 : (k : Int) < (M.m.length : Int) := by omega
  have k3 : ¬ M.m.length ≤ k := by omega
  generalize M.m.getD k 0 = mv at *
  clear hcells hfrz hcpm hvm
  go_enter Tryd.func35, Tryd.ntmps35
  go_wp2_with fail
  rw [← hw1]
  clear hw1
  go_quiet (fail)
  go_wp2_with fail
  refine wp_nameY ?_
  intro wq hwq
  have HQ := Lib.hid (show MOn wq ⟨b, tt, pre, post, off, gm, gs, fx⟩ M vm vs vc vi vo sv from by rw [hwq]; exact H1.out.heap rfl)
  have TQ : ∀ ix, wq.cell? ⟨w.heap.size, ix, none⟩ = #[Value.int .u8 10, .int .i64 x, .int .i64 i, .int .i64 c, .int .i64 d][ix]? := by rw [hwq]; exact TI
  have q1_x : wq.cell? ⟨b, off + 2 + x, none⟩ = some (.int .i64 (M.reg x)) := by rw [hwq]; exact er_x
  have q2_x : wq.frozen? ⟨b, off + 2 + x, none⟩ = false := by rw [hwq]; exact zr_x
  have q_e18 : wq.cell? ⟨b, off + 18, none⟩ = some (.slice (some ⟨gm, 0, none⟩) M.m.length cpm) := by rw [hwq]; exact e18
  have q_ek : wq.cell? ⟨gm, k, none⟩ = some (.int .i64 mv) := by rw [hwq]; exact ek
  have q_zk : wq.frozen? ⟨gm, k, none⟩ = false := by rw [hwq]; exact zk
  have HF : Hid (Fr (Pl.O ⟨b, tt, pre, post, off, gm, gs, fx⟩) w wq) := Lib.hid (by rw [hwq]; exact (Fr.of hbw).drewN _)
  clear hwq er_x zr_x zI TI FI hbw H1 e18 ek zk
  go_region
  go_wp2_with fail
  go_region
  go_wp2_with fail
  go_ret
  exact ⟨rfl, ((HQ.out.setMem k hk _).setReg x hx _).matE rfl, by have HF := HF.out; repeat' (first | with_reducible (first | assumption | apply Fr.refl | apply Fr.drew | apply Fr.drewN | apply Fr.alloc | apply Fr.set) | exact .inl rfl | exact .inr (.inl rfl) | exact .inr (.inr rfl) | (apply Fr.of; assumption))⟩
theorem rs_11a (h : MOn w P M vm vs vc vi vo sv) (x y : Nat) (hx : x < 16) (hy : y < 16) (c d : Int) (hr : M.reg y < 0) :
    SC w P (11) ((x : Nat)) ((y : Nat)) (c) (d) ((12, M)) := by
  unfold SC
  have hgm0 := h.gm; have hgs0 := h.gs
  obtain ⟨w1, hw1, h1, hbw, KI, hlt, hlt0, hne0, hne⟩ := h.al 42 #[.int .u8 (11), .int .i64 ((x : Nat)), .int .i64 ((y : Nat)), .int .i64 (c), .int .i64 (d)]; have H1 := Lib.hid h1; obtain ⟨er_x, zr_x, i0_x, i1_x⟩ := h1.rg x hx; obtain ⟨er_y, zr_y, i0_y, i1_y⟩ := h1.rg y hy; obtain ⟨zI, TI, FI⟩ := KI.open_; obtain ⟨b, tt, pre, post, off, gm, gs, fx⟩ := P; dsimp only at *; clear h h1 KI
  have hr' : decide (M.reg y < 0) = true := by simpa using hr
  go_enter Tryd.func35, Tryd.ntmps35
  go_wp2_with fail
  rw [← hw1]
  clear hw1
  go_quiet (fail)
  go_wp2_with fail
  go_ret
  exact ⟨rfl, H1.out.matE rfl, by repeat' (first | with_reducible (first | assumption | apply Fr.refl | apply Fr.drew | apply Fr.drewN | apply Fr.alloc | apply Fr.set) | exact .inl rfl | exact .inr (.inl rfl) | exact .inr (.inr rfl) | (apply Fr.of; assumption))⟩
theorem rs_11b (h : MOn w P M vm vs vc vi vo sv) (x y : Nat) (hx : x < 16) (hy : y < 16) (c d : Int) (hr0 : 0 ≤ M.reg y) (hr : d ≤ M.reg y) :
    SC w P (11) ((x : Nat)) ((y : Nat)) (c) (d) ((12, M)) := by
  unfold SC
  have hgm0 := h.gm; have hgs0 := h.gs
  obtain ⟨w1, hw1, h1, hbw, KI, hlt, hlt0, hne0, hne⟩ := h.al 42 #[.int .u8 (11), .int .i64 ((x : Nat)), .int .i64 ((y : Nat)), .int .i64 (c), .int .i64 (d)]; have H1 := Lib.hid h1; obtain ⟨er_x, zr_x, i0_x, i1_x⟩ := h1.rg x hx; obtain ⟨er_y, zr_y, i0_y, i1_y⟩ := h1.rg y hy; obtain ⟨zI, TI, FI⟩ := KI.open_; obtain ⟨b, tt, pre, post, off, gm, gs, fx⟩ := P; dsimp only at *; clear h h1 KI
  have hr' : decide (M.reg y < 0) = false := by simp; omega
  have hr2 : decide (d ≤ M.reg y) = true := by simpa using hr
  go_enter Tryd.func35, Tryd.ntmps35
  go_wp2_with fail
  rw [← hw1]
  clear hw1
  go_quiet (fail)
  go_wp2_with fail
  go_ret
  exact ⟨rfl, H1.out.matE rfl, by repeat' (first | with_reducible (first | assumption | apply Fr.refl | apply Fr.drew | apply Fr.drewN | apply Fr.alloc | apply Fr.set) | exact .inl rfl | exact .inr (.inl rfl) | exact .inr (.inr rfl) | (apply Fr.of; assumption))⟩
theorem rs_11c (h : MOn w P M vm vs vc vi vo sv) (x y : Nat) (hx : x < 16) (hy : y < 16) (c d : Int) (c0 : 0 ≤ c) (c1 : c ≤ 16384) (d1 : d ≤ 16384) (f0 : 0 ≤ M.fp) (f1 : M.fp ≤ 16384) (hr0 : 0 ≤ M.reg y) (hr : M.reg y < d) (hat : (M.m.length : Int) ≤ M.fp + c + M.reg y) :
    SC w P (11) ((x : Nat)) ((y : Nat)) (c) (d) ((12, M)) := by
  unfold SC
  have hgm0 := h.gm; have hgs0 := h.gs
  obtain ⟨w1, hw1, h1, hbw, KI, hlt, hlt0, hne0, hne⟩ := h.al 42 #[.int .u8 (11), .int .i64 ((x : Nat)), .int .i64 ((y : Nat)), .int .i64 (c), .int .i64 (d)]; have H1 := Lib.hid h1; obtain ⟨er_x, zr_x, i0_x, i1_x⟩ := h1.rg x hx; obtain ⟨er_y, zr_y, i0_y, i1_y⟩ := h1.rg y hy; obtain ⟨zI, TI, FI⟩ := KI.open_; obtain ⟨b, tt, pre, post, off, gm, gs, fx⟩ := P; dsimp only at *; clear h h1 KI
  have e21 := H1.out.c21
  have e18 := H1.out.c18
  dsimp only at e21 e18
  have z21 := H1.out.frozen (off + 21)
  obtain ⟨Am, cpm, hvm, _⟩ := H1.out.m
  rw [intCells_length] at hvm
  rw [hvm] at e18
  clear hvm
  have hr' : decide (M.reg y < 0) = false := by simp; omega
  have hr2 : decide (d ≤ M.reg y) = false := by simp; omega
  have hr3 : ¬ M.reg y < 0 := by omega
  have hr4 : ¬ d ≤ M.reg y := by omega
  go_enter Tryd.func35, Tryd.ntmps35
  go_wp2_with fail
  rw [← hw1]
  clear hw1
  go_quiet (fail)
  go_wp2_with fail
  go_quiet (fail)
  go_wp2_with fail
  go_ret
  exact ⟨rfl, H1.out.matE rfl, by repeat' (first | with_reducible (first | assumption | apply Fr.refl | apply Fr.drew | apply Fr.drewN | apply Fr.alloc | apply Fr.set) | exact .inl rfl | exact .inr (.inl rfl) | exact .inr (.inr rfl) | (apply Fr.of; assumption))⟩
theorem rs_11d (h : MOn w P M vm vs vc vi vo sv) (x y : Nat) (hx : x < 16) (hy : y < 16) (c d : Int) (c0 : 0 ≤ c) (c1 : c ≤ 16384) (d1 : d ≤ 16384) (f0 : 0 ≤ M.fp) (f1 : M.fp ≤ 16384) (hr0 : 0 ≤ M.reg y) (hr : M.reg y < d) (k : Nat) (hk : k < M.m.length) (hat : M.fp + c + M.reg y = k) :
    SC w P (11) ((x : Nat)) ((y : Nat)) (c) (d) ((0, (M.setM k (M.reg x)).setR x (M.m.getD k 0))) := by
  unfold SC
  have hgm0 := h.gm; have hgs0 := h.gs
  obtain ⟨w1, hw1, h1, hbw, KI, hlt, hlt0, hne0, hne⟩ := h.al 42 #[.int .u8 (11), .int .i64 ((x : Nat)), .int .i64 ((y : Nat)), .int .i64 (c), .int .i64 (d)]; have H1 := Lib.hid h1; obtain ⟨er_x, zr_x, i0_x, i1_x⟩ := h1.rg x hx; obtain ⟨er_y, zr_y, i0_y, i1_y⟩ := h1.rg y hy; obtain ⟨zI, TI, FI⟩ := KI.open_; obtain ⟨b, tt, pre, post, off, gm, gs, fx⟩ := P; dsimp only at *; clear h h1 KI
  have e21 := H1.out.c21
  have e18 := H1.out.c18
  dsimp only at e21 e18
  have z21 := H1.out.frozen (off + 21)
  obtain ⟨cpm, hvm, hcpm, hcells, hfrz⟩ := H1.out.m.form (by rw [intCells_length]; omega)
  rw [intCells_length] at hvm
  have ek : w1.cell? ⟨gm, k, none⟩ = some (.int .i64 (M.m.getD k 0)) := hcells k _ (intCells_get _ _ hk)
  have zk : w1.frozen? ⟨gm, k, none⟩ = false := hfrz k
  rw [hvm] at e18
  have hgmlt : gm < w1.heap.size := H1.out.gm
  have hgne : gm ≠ b := (H1.out.am (by omega)).1
  have hgne' : b ≠ gm := Ne.symm hgne
  have hgI : gm ≠ w.heap.size := by omega
  have k1 : (0 : Int) ≤ (k : Int) := by omega
  have k2 : (k : Int) < (M.m.length : Int) := by omega
  have k3 : ¬ M.m.length ≤ k := by omega
  generalize M.m.getD k 0 = mv at *
  clear hcells hfrz hcpm hvm
  have hr' : decide (M.reg y < 0) = false := by simp; omega
  have hr2 : decide (d ≤ M.reg y) = false := by simp; omega
  have hr3 : ¬ M.reg y < 0 := by omega
  have hr4 : ¬ d ≤ M.reg y := by omega
  go_enter Tryd.func35, Tryd.ntmps35
  go_wp2_with fail
  rw [← hw1]
  clear hw1
  go_quiet (fail)
  go_wp2_with fail
  go_quiet (fail)
  go_wp2_with fail
  refine wp_nameY ?_
  intro wq hwq
  have HQ := Lib.hid (show MOn wq ⟨b, tt, pre, post, off, gm, gs, fx⟩ M vm vs vc vi vo sv from by rw [hwq]; exact H1.out.heap rfl)
  have TQ : ∀ ix, wq.cell? ⟨w.heap.size, ix, none⟩ = #[Value.int .u8 11, .int .i64 x, .int .i64 y, .int .i64 c, .int .i64 d][ix]? := by rw [hwq]; exact TI
  have q1_x : wq.cell? ⟨b, off + 2 + x, none⟩ = some (.int .i64 (M.reg x)) := by rw [hwq]; exact er_x
  have q2_x : wq.frozen? ⟨b, off + 2 + x, none⟩ = false := by rw [hwq]; exact zr_x
  have q1_y : wq.cell? ⟨b, off + 2 + y, none⟩ = some (.int .i64 (M.reg y)) := by rw [hwq]; exact er_y
  have q2_y : wq.frozen? ⟨b, off + 2 + y, none⟩ = false := by rw [hwq]; exact zr_y
  have q_e18 : wq.cell? ⟨b, off + 18, none⟩ = some (.slice (some ⟨gm, 0, none⟩) M.m.length cpm) := by rw [hwq]; exact e18
  have q_ek : wq.cell? ⟨gm, k, none⟩ = some (.int .i64 mv) := by rw [hwq]; exact ek
  have q_zk : wq.frozen? ⟨gm, k, none⟩ = false := by rw [hwq]; exact zk
  have HF : Hid (Fr (Pl.O ⟨b, tt, pre, post, off, gm, gs, fx⟩) w wq) := Lib.hid (by rw [hwq]; exact (Fr.of hbw).drewN _)
  clear hwq er_x zr_x er_y zr_y zI TI FI hbw H1 e18 ek zk
  go_region
  go_wp2_with fail
  go_region
  go_wp2_with fail
  go_ret
  exact ⟨rfl, ((HQ.out.setMem k hk _).setReg x hx _).matE rfl, by have HF := HF.out; repeat' (first | with_reducible (first | assumption | apply Fr.refl | apply Fr.drew | apply Fr.drewN | apply Fr.alloc | apply Fr.set) | exact .inl rfl | exact .inr (.inl rfl) | exact .inr (.inr rfl) | (apply Fr.of; assumption))⟩
end Go.Proofs.YteocbllbljeajaaDoor

/- straight: frames. -/
set_option maxRecDepth 100000
set_option maxHeartbeats 8000000
set_option maxRecDepth 100000
set_option linter.unusedVariables false
set_option linter.unusedSimpArgs false
namespace Go.Proofs.YteocbllbljeajaaDoor
open Go.RowKit Bk
variable {w : World} {D : Nat → Prop} {P : Pl} {M : Mach} {vm vs vc vi vo : Value} {sv : List Value}
theorem rs_28b (h : MOn w P M vm vs vc vi vo sv) (hB : MBd M) (x y : Int) (x0 : 0 ≤ x) (x1 : x ≤ 16384) (y0 : 0 ≤ y) (y1 : y ≤ 16384) (c d : Int) (h1' : ¬ M.fp + x < 0) (h2' : (M.m.length : Int) < M.fp + x) :
    SC w P (28) (x) (y) (c) (d) ((12, M)) := by
  unfold SC
  have HB := Lib.hid hB
  have hgm0 := h.gm; have hgs0 := h.gs
  obtain ⟨w1, hw1, h1, hbw, KI, hlt, hlt0, hne0, hne⟩ := h.al 42 #[.int .u8 (28), .int .i64 (x), .int .i64 (y), .int .i64 (c), .int .i64 (d)]; have H1 := Lib.hid h1; have HKI := Lib.hid KI; obtain ⟨zI, TI, FI⟩ := KI.open_; obtain ⟨b, tt, pre, post, off, gm, gs, fx⟩ := P; dsimp only at *; clear h h1 KI hB
  have e21 := H1.out.c21; have e22 := H1.out.c22; have e18 := H1.out.c18; have e19 := H1.out.c19
  have z21 := H1.out.frozen (off + 21); have z22 := H1.out.frozen (off + 22)
  dsimp only at e21 e22 e18 e19 z21 z22
  obtain ⟨Am, cpm, hvm, _⟩ := H1.out.m
  rw [intCells_length] at hvm
  rw [hvm] at e18
  obtain ⟨As, cps, hvs, _⟩ := H1.out.s
  rw [H1.out.l.1.1] at hvs
  rw [hvs] at e19
  clear hvm hvs
  have f0 := HB.out.f0; have f1 := HB.out.f1; have s0 := HB.out.s0; have s1 := HB.out.s1; have ml := HB.out.ml; have sl := HB.out.sl
  have g1 : decide (M.fp + x < 0) = false := by simpa using h1'
  go_enter Tryd.func35, Tryd.ntmps35
  go_wp2_with fail
  rw [← hw1]
  clear hw1
  go_quiet (fail)
  go_wp2_with fail
  go_ret
  exact ⟨rfl, H1.out.matE rfl, by repeat' (first | with_reducible (first | assumption | apply Fr.refl | apply Fr.drew | apply Fr.drewN | apply Fr.alloc | apply Fr.set) | exact .inl rfl | exact .inr (.inl rfl) | exact .inr (.inr rfl) | (apply Fr.of; assumption))⟩
theorem rs_28d (h : MOn w P M vm vs vc vi vo sv) (hB : MBd M) (x y : Int) (x0 : 0 ≤ x) (x1 : x ≤ 16384) (y0 : 0 ≤ y) (y1 : y ≤ 16384) (c d : Int) (h1' : ¬ M.fp + x < 0) (h2' : ¬ (M.m.length : Int) < M.fp + x) (h3' : ¬ M.sb + y < 0) (h4' : (M.s.length : Int) < M.sb + y) :
    SC w P (28) (x) (y) (c) (d) ((12, M)) := by
  unfold SC
  have HB := Lib.hid hB
  have hgm0 := h.gm; have hgs0 := h.gs
  obtain ⟨w1, hw1, h1, hbw, KI, hlt, hlt0, hne0, hne⟩ := h.al 42 #[.int .u8 (28), .int .i64 (x), .int .i64 (y), .int .i64 (c), .int .i64 (d)]; have H1 := Lib.hid h1; have HKI := Lib.hid KI; obtain ⟨zI, TI, FI⟩ := KI.open_; obtain ⟨b, tt, pre, post, off, gm, gs, fx⟩ := P; dsimp only at *; clear h h1 KI hB
  have e21 := H1.out.c21; have e22 := H1.out.c22; have e18 := H1.out.c18; have e19 := H1.out.c19
  have z21 := H1.out.frozen (off + 21); have z22 := H1.out.frozen (off + 22)
  dsimp only at e21 e22 e18 e19 z21 z22
  obtain ⟨Am, cpm, hvm, _⟩ := H1.out.m
  rw [intCells_length] at hvm
  rw [hvm] at e18
  obtain ⟨As, cps, hvs, _⟩ := H1.out.s
  rw [H1.out.l.1.1] at hvs
  rw [hvs] at e19
  clear hvm hvs
  have f0 := HB.out.f0; have f1 := HB.out.f1; have s0 := HB.out.s0; have s1 := HB.out.s1; have ml := HB.out.ml; have sl := HB.out.sl
  have g1 : decide (M.fp + x < 0) = false := by simpa using h1'
  go_enter Tryd.func35, Tryd.ntmps35
  go_wp2_with fail
  rw [← hw1]
  clear hw1
  go_quiet (fail)
  go_wp2_with fail
  go_ret
  exact ⟨rfl, H1.out.matE rfl, by repeat' (first | with_reducible (first | assumption | apply Fr.refl | apply Fr.drew | apply Fr.drewN | apply Fr.alloc | apply Fr.set) | exact .inl rfl | exact .inr (.inl rfl) | exact .inr (.inr rfl) | (apply Fr.of; assumption))⟩
theorem rs_28e (h : MOn w P M vm vs vc vi vo sv) (hB : MBd M) (x y : Int) (x0 : 0 ≤ x) (x1 : x ≤ 16384) (y0 : 0 ≤ y) (y1 : y ≤ 16384) (c d : Int) (h1' : ¬ M.fp + x < 0) (h2' : ¬ (M.m.length : Int) < M.fp + x) (h3' : ¬ M.sb + y < 0) (h4' : ¬ (M.s.length : Int) < M.sb + y) :
    SC w P (28) (x) (y) (c) (d) ((0, { M with fp := M.fp + x, sb := M.sb + y })) := by
  unfold SC
  have HB := Lib.hid hB
  have hgm0 := h.gm; have hgs0 := h.gs
  obtain ⟨w1, hw1, h1, hbw, KI, hlt, hlt0, hne0, hne⟩ := h.al 42 #[.int .u8 (28), .int .i64 (x), .int .i64 (y), .int .i64 (c), .int .i64 (d)]; have H1 := Lib.hid h1; have HKI := Lib.hid KI; obtain ⟨zI, TI, FI⟩ := KI.open_; obtain ⟨b, tt, pre, post, off, gm, gs, fx⟩ := P; dsimp only at *; clear h h1 KI hB
  have e21 := H1.out.c21; have e22 := H1.out.c22; have e18 := H1.out.c18; have e19 := H1.out.c19
  have z21 := H1.out.frozen (off + 21); have z22 := H1.out.frozen (off + 22)
  dsimp only at e21 e22 e18 e19 z21 z22
  obtain ⟨Am, cpm, hvm, _⟩ := H1.out.m
  rw [intCells_length] at hvm
  rw [hvm] at e18
  obtain ⟨As, cps, hvs, _⟩ := H1.out.s
  rw [H1.out.l.1.1] at hvs
  rw [hvs] at e19
  clear hvm hvs
  have f0 := HB.out.f0; have f1 := HB.out.f1; have s0 := HB.out.s0; have s1 := HB.out.s1; have ml := HB.out.ml; have sl := HB.out.sl
  have g1 : decide (M.fp + x < 0) = false := by simpa using h1'
  go_enter Tryd.func35, Tryd.ntmps35
  go_wp2_with fail
  rw [← hw1]
  clear hw1
  go_quiet (fail)
  go_wp2_with fail
  go_ret
  exact ⟨rfl, ((H1.out.setFp (M.fp + x)).setSb (M.sb + y)).matE rfl, by repeat' (first | with_reducible (first | assumption | apply Fr.refl | apply Fr.drew | apply Fr.drewN | apply Fr.alloc | apply Fr.set) | exact .inl rfl | exact .inr (.inl rfl) | exact .inr (.inr rfl) | (apply Fr.of; assumption))⟩
end Go.Proofs.YteocbllbljeajaaDoor
