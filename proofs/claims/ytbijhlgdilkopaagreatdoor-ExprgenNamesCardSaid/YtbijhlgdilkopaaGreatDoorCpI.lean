/- Several texts in one: CpuI CpuJ. -/
import Derived.Test.YtbijhlgdilkopaaGreatDoorCpF
import Derived.Test.YtbijhlgdilkopaaGreatDoorPa
import Derived.IntWalk
import Derived.StillTailTactics
import Derived.Test.YtbijhlgdilkopaaGreatDoorZPartner
set_option linter.unusedVariables false
set_option linter.unusedSimpArgs false
/- The walks of package cpu: execute, the opcodes that call. -/
set_option maxRecDepth 100000
set_option maxHeartbeats 8000000
set_option linter.unusedVariables false
namespace Go.Proofs.YtbijhlgdilkopaaGreatDoor
open Go.RowKit Bk
variable {w : World} {D : Nat → Prop} {P : Pl} {M : Mach} {vm vs vc vi vo : Value} {sv : List Value}

theorem ex_10 (h : MOn w P M vm vs vc vi vo sv) (hB : MBd M) (x : Nat) (hx : x < 16) (i c d : Int) (i0 : 0 ≤ i) (i1 : i ≤ 16384) :
    Calls Tryz.prog 76 #[.pointer (some ⟨P.b, P.off, none⟩), .agg #[.int .u8 (10), .int .i64 ((x : Nat)), .int .i64 (i), .int .i64 (c), .int .i64 (d)]] w (OnM P (exchange M x (M.fp + i)) w) := by
  have HB := Lib.hid hB
  have f0 := hB.f0; have f1 := hB.f1
  obtain ⟨w1, hw1, h1, hbw, KI, hlt, hlt0, hne0, hne⟩ := h.al 102 #[.int .u8 (10), .int .i64 ((x : Nat)), .int .i64 (i), .int .i64 (c), .int .i64 (d)]; have H1 := Lib.hid h1; obtain ⟨er_x, zr_x, i0_x, i1_x⟩ := h1.rg x hx; obtain ⟨zI, TI, FI⟩ := KI.open_; obtain ⟨b, tt, pre, post, off, gm, gs, fx⟩ := P; dsimp only at *; clear h h1 KI
  clear hB
  have e21 := H1.out.c21
  dsimp only at e21
  go_enter Tryz.func76, Tryz.ntmps76
  go_wp2_with fail
  rw [← hw1]
  clear hw1
  go_still_tail 10, (by kernel_rfl)
  change wpList _ _ _ _ _ w1.drew
  go_wp2_with fail
  refine (c_exchange (H1.out.heap (w' := w1.drew) rfl) x hx (M.fp + i)).mono ?_
  rintro e w2 ⟨rfl, hm, hf⟩
  go_wp2_with fail
  go_ret
  exact ⟨rfl, hm, (Fr.of hbw).drew.trans hf⟩
theorem ex_11a (h : MOn w P M vm vs vc vi vo sv) (x y : Nat) (hx : x < 16) (hy : y < 16) (c d : Int) (hr : M.reg y < 0) :
    Calls Tryz.prog 76 #[.pointer (some ⟨P.b, P.off, none⟩), .agg #[.int .u8 (11), .int .i64 ((x : Nat)), .int .i64 ((y : Nat)), .int .i64 (c), .int .i64 (d)]] w (OnM P (12, M) w) := by
  obtain ⟨w1, hw1, h1, hbw, KI, hlt, hlt0, hne0, hne⟩ := h.al 102 #[.int .u8 (11), .int .i64 ((x : Nat)), .int .i64 ((y : Nat)), .int .i64 (c), .int .i64 (d)]; have H1 := Lib.hid h1; obtain ⟨er_x, zr_x, i0_x, i1_x⟩ := h1.rg x hx; obtain ⟨er_y, zr_y, i0_y, i1_y⟩ := h1.rg y hy; obtain ⟨zI, TI, FI⟩ := KI.open_; obtain ⟨b, tt, pre, post, off, gm, gs, fx⟩ := P; dsimp only at *; clear h h1 KI
  have hr' : decide (M.reg y < 0) = true := by simpa using hr
  go_enter Tryz.func76, Tryz.ntmps76
  go_wp2_with fail
  rw [← hw1]
  clear hw1
  go_quiet (fail)
  go_wp2_with fail
  go_ret
  exact ⟨rfl, H1.out.matE rfl, by repeat' (first | with_reducible (first | assumption | apply Fr.refl | apply Fr.drew | apply Fr.drewN | apply Fr.alloc | apply Fr.set) | exact .inl rfl | exact .inr (.inl rfl) | exact .inr (.inr rfl) | (apply Fr.of; assumption))⟩
theorem ex_11b (h : MOn w P M vm vs vc vi vo sv) (x y : Nat) (hx : x < 16) (hy : y < 16) (c d : Int) (hr0 : 0 ≤ M.reg y) (hr : d ≤ M.reg y) :
    Calls Tryz.prog 76 #[.pointer (some ⟨P.b, P.off, none⟩), .agg #[.int .u8 (11), .int .i64 ((x : Nat)), .int .i64 ((y : Nat)), .int .i64 (c), .int .i64 (d)]] w (OnM P (12, M) w) := by
  obtain ⟨w1, hw1, h1, hbw, KI, hlt, hlt0, hne0, hne⟩ := h.al 102 #[.int .u8 (11), .int .i64 ((x : Nat)), .int .i64 ((y : Nat)), .int .i64 (c), .int .i64 (d)]; have H1 := Lib.hid h1; obtain ⟨er_x, zr_x, i0_x, i1_x⟩ := h1.rg x hx; obtain ⟨er_y, zr_y, i0_y, i1_y⟩ := h1.rg y hy; obtain ⟨zI, TI, FI⟩ := KI.open_; obtain ⟨b, tt, pre, post, off, gm, gs, fx⟩ := P; dsimp only at *; clear h h1 KI
  have hr' : decide (M.reg y < 0) = false := by simp; omega
  have hr2 : decide (d ≤ M.reg y) = true := by simpa using hr
  go_enter Tryz.func76, Tryz.ntmps76
  go_wp2_with fail
  rw [← hw1]
  clear hw1
  go_quiet (fail)
  go_wp2_with fail
  go_ret
  exact ⟨rfl, H1.out.matE rfl, by repeat' (first | with_reducible (first | assumption | apply Fr.refl | apply Fr.drew | apply Fr.drewN | apply Fr.alloc | apply Fr.set) | exact .inl rfl | exact .inr (.inl rfl) | exact .inr (.inr rfl) | (apply Fr.of; assumption))⟩
theorem ex_11c (h : MOn w P M vm vs vc vi vo sv) (hB : MBd M) (x y : Nat) (hx : x < 16) (hy : y < 16) (c d : Int) (c0 : 0 ≤ c) (c1 : c ≤ 16384) (d1 : d ≤ 16384) (hr0 : 0 ≤ M.reg y) (hr : M.reg y < d) :
    Calls Tryz.prog 76 #[.pointer (some ⟨P.b, P.off, none⟩), .agg #[.int .u8 (11), .int .i64 ((x : Nat)), .int .i64 ((y : Nat)), .int .i64 (c), .int .i64 (d)]] w (OnM P (exchange M x (M.fp + c + M.reg y)) w) := by
  have f0 := hB.f0; have f1 := hB.f1
  obtain ⟨w1, hw1, h1, hbw, KI, hlt, hlt0, hne0, hne⟩ := h.al 102 #[.int .u8 (11), .int .i64 ((x : Nat)), .int .i64 ((y : Nat)), .int .i64 (c), .int .i64 (d)]; have H1 := Lib.hid h1; obtain ⟨er_x, zr_x, i0_x, i1_x⟩ := h1.rg x hx; obtain ⟨er_y, zr_y, i0_y, i1_y⟩ := h1.rg y hy; obtain ⟨zI, TI, FI⟩ := KI.open_; obtain ⟨b, tt, pre, post, off, gm, gs, fx⟩ := P; dsimp only at *; clear h h1 KI
  have e21 := H1.out.c21
  dsimp only at e21
  have hr' : decide (M.reg y < 0) = false := by simp; omega
  have hr2 : decide (d ≤ M.reg y) = false := by simp; omega
  clear hB
  go_enter Tryz.func76, Tryz.ntmps76
  go_wp2_with fail
  rw [← hw1]
  clear hw1
  go_quiet (fail)
  go_wp2_with fail
  rename_i nq _ _
  have HQ := Lib.hid (H1.out.heap (w' := w1.drewN nq) rfl)
  have TQ : ∀ i, (w1.drewN nq).cell? ⟨w.heap.size, i, none⟩ = #[Value.int .u8 11, .int .i64 x, .int .i64 y, .int .i64 c, .int .i64 d][i]? := TI
  have q1 : (w1.drewN nq).cell? ⟨b, off + 2 + y, none⟩ = some (.int .i64 (M.reg y)) := er_y
  have q2 : (w1.drewN nq).cell? ⟨b, off + 21, none⟩ = some (.int .i64 M.fp) := e21
  have HF := Lib.hid ((Fr.of hbw (O := (Pl.O ⟨b, tt, pre, post, off, gm, gs, fx⟩))).drewN nq)
  clear er_x zr_x er_y zr_y zI TI FI e21 hbw H1
  generalize w1.drewN nq = wq at *
  go_still_tail 18, (by kernel_rfl)
  change wpList _ _ _ _ _ wq.drew
  go_wp2_with fail
  refine (c_exchange (HQ.out.heap (w' := wq.drew) rfl) x hx (M.fp + c + M.reg y)).mono ?_
  rintro e w2 ⟨rfl, hm, hf⟩
  go_wp2_with fail
  go_ret
  exact ⟨rfl, hm, HF.out.drew.trans hf⟩
theorem ex_28 (h : MOn w P M vm vs vc vi vo sv) (hB : MBd M) (x i c d : Int) (x0 : 0 ≤ x) (x1 : x ≤ 16384) (i0 : 0 ≤ i) (i1 : i ≤ 16384) :
    Calls Tryz.prog 76 #[.pointer (some ⟨P.b, P.off, none⟩), .agg #[.int .u8 (28), .int .i64 (x), .int .i64 (i), .int .i64 (c), .int .i64 (d)]] w (OnM P (shift M x i) w) := by
  have HB := Lib.hid hB
  have f0 := hB.f0; have f1 := hB.f1
  obtain ⟨w1, hw1, h1, hbw, KI, hlt, hlt0, hne0, hne⟩ := h.al 102 #[.int .u8 (28), .int .i64 (x), .int .i64 (i), .int .i64 (c), .int .i64 (d)]; have H1 := Lib.hid h1; obtain ⟨zI, TI, FI⟩ := KI.open_; obtain ⟨b, tt, pre, post, off, gm, gs, fx⟩ := P; dsimp only at *; clear h h1 KI
  clear hB
  go_enter Tryz.func76, Tryz.ntmps76
  go_wp2_with fail
  rw [← hw1]
  clear hw1
  refine (c_shift H1.out HB.out x i (by omega) (by omega) (by omega) (by omega)).mono ?_
  rintro e w2 ⟨rfl, hm, hf⟩
  go_wp2_with fail
  go_ret
  exact ⟨rfl, hm, (Fr.of hbw).trans hf⟩
theorem ex_29 (h : MOn w P M vm vs vc vi vo sv) (hB : MBd M) (x i c d : Int) (x0 : 0 ≤ x) (x1 : x ≤ 16384) (i0 : 0 ≤ i) (i1 : i ≤ 16384) :
    Calls Tryz.prog 76 #[.pointer (some ⟨P.b, P.off, none⟩), .agg #[.int .u8 (29), .int .i64 (x), .int .i64 (i), .int .i64 (c), .int .i64 (d)]] w (OnM P (shift M (-x) (-i)) w) := by
  have HB := Lib.hid hB
  have f0 := hB.f0; have f1 := hB.f1
  obtain ⟨w1, hw1, h1, hbw, KI, hlt, hlt0, hne0, hne⟩ := h.al 102 #[.int .u8 (29), .int .i64 (x), .int .i64 (i), .int .i64 (c), .int .i64 (d)]; have H1 := Lib.hid h1; obtain ⟨zI, TI, FI⟩ := KI.open_; obtain ⟨b, tt, pre, post, off, gm, gs, fx⟩ := P; dsimp only at *; clear h h1 KI
  clear hB
  go_enter Tryz.func76, Tryz.ntmps76
  go_wp2_with fail
  rw [← hw1]
  clear hw1
  refine (c_shift H1.out HB.out (-x) (-i) (by omega) (by omega) (by omega) (by omega)).mono ?_
  rintro e w2 ⟨rfl, hm, hf⟩
  go_wp2_with fail
  go_ret
  exact ⟨rfl, hm, (Fr.of hbw).trans hf⟩
theorem ex_16 (h : MOn w P M vm vs vc vi vo sv) (hB : MBd M) (x i c d : Int) (x0 : 0 ≤ x) (x1 : x ≤ 16384) (i0 : 0 ≤ i) (i1 : i ≤ 16384) :
    Calls Tryz.prog 76 #[.pointer (some ⟨P.b, P.off, none⟩), .agg #[.int .u8 (16), .int .i64 (x), .int .i64 (i), .int .i64 (c), .int .i64 (d)]] w (OnM P (swapS M x i) w) := by
  have HB := Lib.hid hB
  have f0 := hB.f0; have f1 := hB.f1
  obtain ⟨w1, hw1, h1, hbw, KI, hlt, hlt0, hne0, hne⟩ := h.al 102 #[.int .u8 (16), .int .i64 (x), .int .i64 (i), .int .i64 (c), .int .i64 (d)]; have H1 := Lib.hid h1; obtain ⟨zI, TI, FI⟩ := KI.open_; obtain ⟨b, tt, pre, post, off, gm, gs, fx⟩ := P; dsimp only at *; clear h h1 KI
  clear hB
  go_enter Tryz.func76, Tryz.ntmps76
  go_wp2_with fail
  rw [← hw1]
  clear hw1
  refine (c_swap H1.out HB.out x i x0 x1 i0 i1).mono ?_
  rintro e w2 ⟨rfl, hm, hf⟩
  go_wp2_with fail
  go_ret
  exact ⟨rfl, hm, (Fr.of hbw).trans hf⟩
theorem ex_12 (h : MOn w P M vm vs vc vi vo sv) (hB : MBd M) (x : Nat) (hx : x < 16) (i c d : Int) (i0 : 0 ≤ i) (i1 : i ≤ 16384) :
    Calls Tryz.prog 76 #[.pointer (some ⟨P.b, P.off, none⟩), .agg #[.int .u8 (12), .int .i64 ((x : Nat)), .int .i64 (i), .int .i64 (c), .int .i64 (d)]] w (OnM P (stack M ⟨12, x, i, c, d⟩) w) := by
  have HB := Lib.hid hB
  have f0 := hB.f0; have f1 := hB.f1
  obtain ⟨w1, hw1, h1, hbw, KI, hlt, hlt0, hne0, hne⟩ := h.al 102 #[.int .u8 (12), .int .i64 ((x : Nat)), .int .i64 (i), .int .i64 (c), .int .i64 (d)]; have H1 := Lib.hid h1; obtain ⟨er_x, zr_x, i0_x, i1_x⟩ := h1.rg x hx; obtain ⟨zI, TI, FI⟩ := KI.open_; obtain ⟨b, tt, pre, post, off, gm, gs, fx⟩ := P; dsimp only at *; clear h h1 KI
  clear hB
  go_enter Tryz.func76, Tryz.ntmps76
  go_wp2_with fail
  rw [← hw1]
  clear hw1
  refine (c_stack H1.out HB.out 12 (by omega) x hx i c d i0 i1).mono ?_
  rintro e w2 ⟨rfl, hm, hf⟩
  go_wp2_with fail
  go_ret
  exact ⟨rfl, hm, (Fr.of hbw).trans hf⟩
theorem ex_13 (h : MOn w P M vm vs vc vi vo sv) (hB : MBd M) (x : Nat) (hx : x < 16) (i c d : Int) (i0 : 0 ≤ i) (i1 : i ≤ 16384) :
    Calls Tryz.prog 76 #[.pointer (some ⟨P.b, P.off, none⟩), .agg #[.int .u8 (13), .int .i64 ((x : Nat)), .int .i64 (i), .int .i64 (c), .int .i64 (d)]] w (OnM P (stack M ⟨13, x, i, c, d⟩) w) := by
  have HB := Lib.hid hB
  have f0 := hB.f0; have f1 := hB.f1
  obtain ⟨w1, hw1, h1, hbw, KI, hlt, hlt0, hne0, hne⟩ := h.al 102 #[.int .u8 (13), .int .i64 ((x : Nat)), .int .i64 (i), .int .i64 (c), .int .i64 (d)]; have H1 := Lib.hid h1; obtain ⟨er_x, zr_x, i0_x, i1_x⟩ := h1.rg x hx; obtain ⟨zI, TI, FI⟩ := KI.open_; obtain ⟨b, tt, pre, post, off, gm, gs, fx⟩ := P; dsimp only at *; clear h h1 KI
  clear hB
  go_enter Tryz.func76, Tryz.ntmps76
  go_wp2_with fail
  rw [← hw1]
  clear hw1
  refine (c_stack H1.out HB.out 13 (by omega) x hx i c d i0 i1).mono ?_
  rintro e w2 ⟨rfl, hm, hf⟩
  go_wp2_with fail
  go_ret
  exact ⟨rfl, hm, (Fr.of hbw).trans hf⟩
theorem ex_14 (h : MOn w P M vm vs vc vi vo sv) (hB : MBd M) (x : Nat) (hx : x < 16) (i c d : Int) (i0 : 0 ≤ i) (i1 : i ≤ 16384) :
    Calls Tryz.prog 76 #[.pointer (some ⟨P.b, P.off, none⟩), .agg #[.int .u8 (14), .int .i64 ((x : Nat)), .int .i64 (i), .int .i64 (c), .int .i64 (d)]] w (OnM P (stack M ⟨14, x, i, c, d⟩) w) := by
  have HB := Lib.hid hB
  have f0 := hB.f0; have f1 := hB.f1
  obtain ⟨w1, hw1, h1, hbw, KI, hlt, hlt0, hne0, hne⟩ := h.al 102 #[.int .u8 (14), .int .i64 ((x : Nat)), .int .i64 (i), .int .i64 (c), .int .i64 (d)]; have H1 := Lib.hid h1; obtain ⟨er_x, zr_x, i0_x, i1_x⟩ := h1.rg x hx; obtain ⟨zI, TI, FI⟩ := KI.open_; obtain ⟨b, tt, pre, post, off, gm, gs, fx⟩ := P; dsimp only at *; clear h h1 KI
  clear hB
  go_enter Tryz.func76, Tryz.ntmps76
  go_wp2_with fail
  rw [← hw1]
  clear hw1
  refine (c_stack H1.out HB.out 14 (by omega) x hx i c d i0 i1).mono ?_
  rintro e w2 ⟨rfl, hm, hf⟩
  go_wp2_with fail
  go_ret
  exact ⟨rfl, hm, (Fr.of hbw).trans hf⟩
theorem ex_15 (h : MOn w P M vm vs vc vi vo sv) (hB : MBd M) (x : Nat) (hx : x < 16) (i c d : Int) (i0 : 0 ≤ i) (i1 : i ≤ 16384) :
    Calls Tryz.prog 76 #[.pointer (some ⟨P.b, P.off, none⟩), .agg #[.int .u8 (15), .int .i64 ((x : Nat)), .int .i64 (i), .int .i64 (c), .int .i64 (d)]] w (OnM P (stack M ⟨15, x, i, c, d⟩) w) := by
  have HB := Lib.hid hB
  have f0 := hB.f0; have f1 := hB.f1
  obtain ⟨w1, hw1, h1, hbw, KI, hlt, hlt0, hne0, hne⟩ := h.al 102 #[.int .u8 (15), .int .i64 ((x : Nat)), .int .i64 (i), .int .i64 (c), .int .i64 (d)]; have H1 := Lib.hid h1; obtain ⟨er_x, zr_x, i0_x, i1_x⟩ := h1.rg x hx; obtain ⟨zI, TI, FI⟩ := KI.open_; obtain ⟨b, tt, pre, post, off, gm, gs, fx⟩ := P; dsimp only at *; clear h h1 KI
  clear hB
  go_enter Tryz.func76, Tryz.ntmps76
  go_wp2_with fail
  rw [← hw1]
  clear hw1
  refine (c_stack H1.out HB.out 15 (by omega) x hx i c d i0 i1).mono ?_
  rintro e w2 ⟨rfl, hm, hf⟩
  go_wp2_with fail
  go_ret
  exact ⟨rfl, hm, (Fr.of hbw).trans hf⟩
theorem ex_17 (h : MOn w P M vm vs vc vi vo sv) (hB : MBd M) (x : Nat) (hx : x < 16) (i c d : Int) :
    Calls Tryz.prog 76 #[.pointer (some ⟨P.b, P.off, none⟩), .agg #[.int .u8 (17), .int .i64 ((x : Nat)), .int .i64 (i), .int .i64 (c), .int .i64 (d)]] w (OnM P (transfer M ⟨17, x, i, c, d⟩) w) := by
  have HB := Lib.hid hB
  have f0 := hB.f0; have f1 := hB.f1
  obtain ⟨w1, hw1, h1, hbw, KI, hlt, hlt0, hne0, hne⟩ := h.al 102 #[.int .u8 (17), .int .i64 ((x : Nat)), .int .i64 (i), .int .i64 (c), .int .i64 (d)]; have H1 := Lib.hid h1; obtain ⟨er_x, zr_x, i0_x, i1_x⟩ := h1.rg x hx; obtain ⟨zI, TI, FI⟩ := KI.open_; obtain ⟨b, tt, pre, post, off, gm, gs, fx⟩ := P; dsimp only at *; clear h h1 KI
  clear hB
  go_enter Tryz.func76, Tryz.ntmps76
  go_wp2_with fail
  rw [← hw1]
  clear hw1
  refine (c_transfer H1.out HB.out 17 (by omega) x hx i c d).mono ?_
  rintro e w2 ⟨rfl, hm, hf⟩
  go_wp2_with fail
  go_ret
  exact ⟨rfl, hm, (Fr.of hbw).trans hf⟩
theorem ex_18 (h : MOn w P M vm vs vc vi vo sv) (hB : MBd M) (x : Nat) (hx : x < 16) (i c d : Int) :
    Calls Tryz.prog 76 #[.pointer (some ⟨P.b, P.off, none⟩), .agg #[.int .u8 (18), .int .i64 ((x : Nat)), .int .i64 (i), .int .i64 (c), .int .i64 (d)]] w (OnM P (transfer M ⟨18, x, i, c, d⟩) w) := by
  have HB := Lib.hid hB
  have f0 := hB.f0; have f1 := hB.f1
  obtain ⟨w1, hw1, h1, hbw, KI, hlt, hlt0, hne0, hne⟩ := h.al 102 #[.int .u8 (18), .int .i64 ((x : Nat)), .int .i64 (i), .int .i64 (c), .int .i64 (d)]; have H1 := Lib.hid h1; obtain ⟨er_x, zr_x, i0_x, i1_x⟩ := h1.rg x hx; obtain ⟨zI, TI, FI⟩ := KI.open_; obtain ⟨b, tt, pre, post, off, gm, gs, fx⟩ := P; dsimp only at *; clear h h1 KI
  clear hB
  go_enter Tryz.func76, Tryz.ntmps76
  go_wp2_with fail
  rw [← hw1]
  clear hw1
  refine (c_transfer H1.out HB.out 18 (by omega) x hx i c d).mono ?_
  rintro e w2 ⟨rfl, hm, hf⟩
  go_wp2_with fail
  go_ret
  exact ⟨rfl, hm, (Fr.of hbw).trans hf⟩
theorem ex_19 (h : MOn w P M vm vs vc vi vo sv) (hB : MBd M) (x : Nat) (hx : x < 16) (i c d : Int) :
    Calls Tryz.prog 76 #[.pointer (some ⟨P.b, P.off, none⟩), .agg #[.int .u8 (19), .int .i64 ((x : Nat)), .int .i64 (i), .int .i64 (c), .int .i64 (d)]] w (OnM P (transfer M ⟨19, x, i, c, d⟩) w) := by
  have HB := Lib.hid hB
  have f0 := hB.f0; have f1 := hB.f1
  obtain ⟨w1, hw1, h1, hbw, KI, hlt, hlt0, hne0, hne⟩ := h.al 102 #[.int .u8 (19), .int .i64 ((x : Nat)), .int .i64 (i), .int .i64 (c), .int .i64 (d)]; have H1 := Lib.hid h1; obtain ⟨er_x, zr_x, i0_x, i1_x⟩ := h1.rg x hx; obtain ⟨zI, TI, FI⟩ := KI.open_; obtain ⟨b, tt, pre, post, off, gm, gs, fx⟩ := P; dsimp only at *; clear h h1 KI
  clear hB
  go_enter Tryz.func76, Tryz.ntmps76
  go_wp2_with fail
  rw [← hw1]
  clear hw1
  refine (c_transfer H1.out HB.out 19 (by omega) x hx i c d).mono ?_
  rintro e w2 ⟨rfl, hm, hf⟩
  go_wp2_with fail
  go_ret
  exact ⟨rfl, hm, (Fr.of hbw).trans hf⟩
theorem ex_20 (h : MOn w P M vm vs vc vi vo sv) (hB : MBd M) (x : Nat) (hx : x < 16) (i c d : Int) :
    Calls Tryz.prog 76 #[.pointer (some ⟨P.b, P.off, none⟩), .agg #[.int .u8 (20), .int .i64 ((x : Nat)), .int .i64 (i), .int .i64 (c), .int .i64 (d)]] w (OnM P (transfer M ⟨20, x, i, c, d⟩) w) := by
  have HB := Lib.hid hB
  have f0 := hB.f0; have f1 := hB.f1
  obtain ⟨w1, hw1, h1, hbw, KI, hlt, hlt0, hne0, hne⟩ := h.al 102 #[.int .u8 (20), .int .i64 ((x : Nat)), .int .i64 (i), .int .i64 (c), .int .i64 (d)]; have H1 := Lib.hid h1; obtain ⟨er_x, zr_x, i0_x, i1_x⟩ := h1.rg x hx; obtain ⟨zI, TI, FI⟩ := KI.open_; obtain ⟨b, tt, pre, post, off, gm, gs, fx⟩ := P; dsimp only at *; clear h h1 KI
  clear hB
  go_enter Tryz.func76, Tryz.ntmps76
  go_wp2_with fail
  rw [← hw1]
  clear hw1
  refine (c_transfer H1.out HB.out 20 (by omega) x hx i c d).mono ?_
  rintro e w2 ⟨rfl, hm, hf⟩
  go_wp2_with fail
  go_ret
  exact ⟨rfl, hm, (Fr.of hbw).trans hf⟩
end Go.Proofs.YtbijhlgdilkopaaGreatDoor

/- The walks of package cpu: execute; behind, holds, Turn. -/
set_option linter.unusedVariables false
namespace Go.Proofs.YtbijhlgdilkopaaGreatDoor
open Go.RowKit Bk
variable {w : World} {D : Nat → Prop} {P : Pl} {M : Mach} {vm vs vc vi vo : Value} {sv : List Value}

theorem nat_of {a : Int} (h0 : 0 ≤ a) : ∃ k : Nat, a = k := ⟨a.toNat, by omega⟩

/-- execute, at every valid instruction that is followed by the next one. -/
theorem c_execute (h : MOn w P M vm vs vc vi vo sv) (hB : MBd M) (i : Ins) (hs : straightB i.op = true) (hv : i.valid = true) :
    Calls Tryz.prog 76 #[.pointer (some ⟨P.b, P.off, none⟩), .agg #[.int .u8 (i.op), .int .i64 (i.a), .int .i64 (i.b), .int .i64 (i.c), .int .i64 (i.d)]] w (OnM P (exec M i) w) := by
  obtain ⟨op, a, b, c, d⟩ := i
  have hs' : 0 ≤ op ∧ op ≤ 21 ∨ op = 28 ∨ op = 29 := of_decide_eq_true hs
  simp only [Ins.valid, validB, Bool.and_eq_true] at hv
  obtain ⟨⟨_, _⟩, hsh⟩ := hv
  have e : op = 0 ∨ op = 1 ∨ op = 2 ∨ op = 3 ∨ op = 4 ∨ op = 5 ∨ op = 6 ∨ op = 7 ∨ op = 8 ∨ op = 9 ∨ op = 10 ∨ op = 11 ∨ op = 12 ∨ op = 13 ∨ op = 14 ∨ op = 15 ∨ op = 16 ∨ op = 17 ∨ op = 18 ∨ op = 19 ∨ op = 20 ∨ op = 21 ∨ op = 28 ∨ op = 29 := by omega
  clear hs hs'
  rcases e with rfl | rfl | rfl | rfl | rfl | rfl | rfl | rfl | rfl | rfl | rfl | rfl | rfl | rfl | rfl | rfl | rfl | rfl | rfl | rfl | rfl | rfl | rfl | rfl
  · rw [exec_0]; exact ex_0 h a b c d
  · rw [exec_1]; simp [shapeB, regB] at hsh
    obtain ⟨x, rfl⟩ := nat_of hsh.1.1.1; obtain ⟨y, rfl⟩ := nat_of hsh.1.2.1
    exact ex_1 h x y (by omega) (by omega) c d
  · rw [exec_2]; simp [shapeB, regB] at hsh
    obtain ⟨x, rfl⟩ := nat_of hsh.1.1.1; obtain ⟨y, rfl⟩ := nat_of hsh.1.2.1
    exact ex_2 h x y (by omega) (by omega) c d
  · rw [exec_3]; simp [shapeB, regB] at hsh
    obtain ⟨x, rfl⟩ := nat_of hsh.1.1.1; obtain ⟨y, rfl⟩ := nat_of hsh.1.2.1
    exact ex_3 h x y (by omega) (by omega) c d
  · rw [exec_4]; simp [shapeB, regB] at hsh
    obtain ⟨x, rfl⟩ := nat_of hsh.1
    exact ex_4 h x (by omega) b c d
  · rw [exec_5]; simp [shapeB, regB] at hsh
    obtain ⟨x, rfl⟩ := nat_of hsh.1
    exact ex_5 h x (by omega) b c d
  · rw [exec_6]; simp [shapeB, regB] at hsh
    obtain ⟨x, rfl⟩ := nat_of hsh.1
    exact ex_6 h x (by omega) b c d
  · rw [exec_7]; simp [shapeB, regB] at hsh
    obtain ⟨x, rfl⟩ := nat_of hsh.1.1; obtain ⟨y, rfl⟩ := nat_of hsh.2.1
    exact ex_7 h x y (by omega) (by omega) c d
  · rw [exec_8]; simp [shapeB, regB] at hsh
    obtain ⟨x, rfl⟩ := nat_of hsh.1
    exact ex_8 h x (by omega) b c d
  · rw [exec_9]; simp [shapeB, regB, operB] at hsh
    obtain ⟨x, rfl⟩ := nat_of (show 0 ≤ a by omega); obtain ⟨y, rfl⟩ := nat_of (show 0 ≤ b by omega); obtain ⟨z, rfl⟩ := nat_of (show 0 ≤ c by omega)
    by_cases hr : (apply d (M.reg y) (M.reg z)).2 = 0
    · rw [if_neg (fun g => g hr)]
      exact ex_9b h x y z (by omega) (by omega) (by omega) d (by omega) (by omega) _ (Prod.ext rfl hr)
    · rw [if_pos hr]
      exact ex_9a h x y z (by omega) (by omega) (by omega) d (by omega) (by omega) _ _ rfl hr
  · rw [exec_10]; simp [shapeB, regB, numB] at hsh
    obtain ⟨x, rfl⟩ := nat_of hsh.1.1
    exact ex_10 h hB x (by omega) b c d (by omega) (by omega)
  · rw [exec_11]; simp [shapeB, regB, numB] at hsh
    obtain ⟨x, rfl⟩ := nat_of (show 0 ≤ a by omega); obtain ⟨y, rfl⟩ := nat_of (show 0 ≤ b by omega)
    by_cases h0 : M.reg y < 0
    · rw [if_pos (.inl h0)]; exact ex_11a h x y (by omega) (by omega) c d h0
    by_cases h1 : d ≤ M.reg y
    · rw [if_pos (.inr h1)]; exact ex_11b h x y (by omega) (by omega) c d (by omega) h1
    · rw [if_neg (by omega)]; exact ex_11c h hB x y (by omega) (by omega) c d (by omega) (by omega) (by omega) (by omega) (by omega)
  · rw [exec_12]; simp [shapeB, regB, numB] at hsh
    obtain ⟨x, rfl⟩ := nat_of hsh.1.1
    exact ex_12 h hB x (by omega) b c d (by omega) (by omega)
  · rw [exec_13]; simp [shapeB, regB, numB] at hsh
    obtain ⟨x, rfl⟩ := nat_of hsh.1.1
    exact ex_13 h hB x (by omega) b c d (by omega) (by omega)
  · rw [exec_14]; simp [shapeB, regB, numB] at hsh
    obtain ⟨x, rfl⟩ := nat_of hsh.1.1
    exact ex_14 h hB x (by omega) b c d (by omega) (by omega)
  · rw [exec_15]; simp [shapeB, regB, numB] at hsh
    obtain ⟨x, rfl⟩ := nat_of hsh.1.1
    exact ex_15 h hB x (by omega) b c d (by omega) (by omega)
  · rw [exec_16]; simp [shapeB, numB] at hsh
    exact ex_16 h hB a b c d (by omega) (by omega) (by omega) (by omega)
  · rw [exec_17]; simp [shapeB, regB] at hsh
    obtain ⟨x, rfl⟩ := nat_of hsh.1
    exact ex_17 h hB x (by omega) b c d
  · rw [exec_18]; simp [shapeB, regB] at hsh
    obtain ⟨x, rfl⟩ := nat_of hsh.1
    exact ex_18 h hB x (by omega) b c d
  · rw [exec_19]; simp [shapeB, regB] at hsh
    obtain ⟨x, rfl⟩ := nat_of hsh.1
    exact ex_19 h hB x (by omega) b c d
  · rw [exec_20]; simp [shapeB, regB] at hsh
    obtain ⟨x, rfl⟩ := nat_of hsh.1
    exact ex_20 h hB x (by omega) b c d
  · rw [exec_21]; simp [shapeB, regB] at hsh
    obtain ⟨x, rfl⟩ := nat_of hsh.1.1
    by_cases hr : M.reg x = 0
    · rw [if_neg (fun g => g hr)]; exact ex_21b h x (by omega) b c d hr
    · rw [if_pos hr]; exact ex_21a h x (by omega) b c d hr
  · rw [exec_28]; simp [shapeB, numB] at hsh
    exact ex_28 h hB a b c d (by omega) (by omega) (by omega) (by omega)
  · rw [exec_29]; simp [shapeB, numB] at hsh
    exact ex_29 h hB a b c d (by omega) (by omega) (by omega) (by omega)

theorem c_behind (i d : Int) (i0 : 0 ≤ i) (i1 : i ≤ 65536) (w : World) :
    Calls Tryz.prog 88 #[.int .i64 i, .int .i64 d] w fun e w' => e = .returned (.int .i64 (behind i d)) ∧ w = w' := by
  by_cases hd : d > 0
  · have hx : behind i d = i + 1 := by unfold behind; rw [if_pos hd]
    rw [hx]
    go_enter Tryz.func88, Tryz.ntmps88
    go_wp2_with fail
    go_ret
    exact ⟨rfl, rfl⟩
  · have hx : behind i d = i := by unfold behind; rw [if_neg hd]
    rw [hx]
    have hd' : d ≤ 0 := by omega
    clear hd
    go_enter Tryz.func88, Tryz.ntmps88
    go_wp2_with fail
    go_ret
    exact ⟨rfl, rfl⟩

end Go.Proofs.YtbijhlgdilkopaaGreatDoor
