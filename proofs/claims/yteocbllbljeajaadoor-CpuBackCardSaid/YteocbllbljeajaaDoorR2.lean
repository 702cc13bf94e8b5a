/- Several texts in one: RcO RcJ RcK. -/
import Derived.Test.YteocbllbljeajaaDoorRX
import Derived.BigRegion
import Derived.Test.YteocbllbljeajaaDoorZHeldL
set_option linter.unusedVariables false
set_option linter.unusedSimpArgs false
/- straight: frames left. -/
set_option maxRecDepth 100000
set_option maxHeartbeats 8000000
set_option maxRecDepth 100000
set_option linter.unusedVariables false
set_option linter.unusedSimpArgs false
namespace Go.Proofs.YteocbllbljeajaaDoor
open Go.RowKit Bk
variable {w : World} {D : Nat → Prop} {P : Pl} {M : Mach} {vm vs vc vi vo : Value} {sv : List Value}
theorem rs_29a (h : MOn w P M vm vs vc vi vo sv) (hB : MBd M) (x y : Int) (x0 : 0 ≤ x) (x1 : x ≤ 16384) (y0 : 0 ≤ y) (y1 : y ≤ 16384) (c d : Int) (h1' : M.fp - x < 0) :
    SC w P (29) (x) (y) (c) (d) ((12, M)) := by
  unfold SC
  have HB := Lib.hid hB
  have hgm0 := h.gm; have hgs0 := h.gs
  obtain ⟨w1, hw1, h1, hbw, KI, hlt, hlt0, hne0, hne⟩ := h.al 42 #[.int .u8 (29), .int .i64 (x), .int .i64 (y), .int .i64 (c), .int .i64 (d)]; have H1 := Lib.hid h1; have HKI := Lib.hid KI; obtain ⟨zI, TI, FI⟩ := KI.open_; obtain ⟨b, tt, pre, post, off, gm, gs, fx⟩ := P; dsimp only at *; clear h h1 KI hB
  have e21 := H1.out.c21; have e22 := H1.out.c22; have e18 := H1.out.c18; have e19 := H1.out.c19
  have z21 := H1.out.frozen (off + 21); have z22 := H1.out.frozen (off + 22)
  dsimp only at e21 e22 e18 e19 z21 z22
  obtain ⟨Am, cpm, hvm, _⟩ := H1.out.m
  rw [intCells_length] at hvm
  rw [hvm] at e18
  obtain ⟨As, cps, hvs, _⟩ := H1.out.s
  rw [H1.out.l.1.1] at hvs
  rw [hvs] at e19
  clear hvm hvs
  have f0 := HB.out.f0; have f1 := HB.out.f1; have s0 := HB.out.s0; have s1 := HB.out.s1; have ml := HB.out.ml; have sl := HB.out.sl
  have g1 : decide (M.fp - x < 0) = true := by simpa using h1'
  go_enter Tryd.func35, Tryd.ntmps35
  go_wp2_with fail
  rw [← hw1]
  clear hw1
  go_quiet (fail)
  go_wp2_with fail
  go_quiet (fail)
  go_wp2_with fail
  go_ret
  exact ⟨rfl, H1.out.matE rfl, by repeat' (first | with_reducible (first | assumption | apply Fr.refl | apply Fr.drew | apply Fr.drewN | apply Fr.alloc | apply Fr.set) | exact .inl rfl | exact .inr (.inl rfl) | exact .inr (.inr rfl) | (apply Fr.of; assumption))⟩
theorem rs_29b (h : MOn w P M vm vs vc vi vo sv) (hB : MBd M) (x y : Int) (x0 : 0 ≤ x) (x1 : x ≤ 16384) (y0 : 0 ≤ y) (y1 : y ≤ 16384) (c d : Int) (h1' : ¬ M.fp - x < 0) (h2' : (M.m.length : Int) < M.fp - x) :
    SC w P (29) (x) (y) (c) (d) ((12, M)) := by
  unfold SC
  have HB := Lib.hid hB
  have hgm0 := h.gm; have hgs0 := h.gs
  obtain ⟨w1, hw1, h1, hbw, KI, hlt, hlt0, hne0, hne⟩ := h.al 42 #[.int .u8 (29), .int .i64 (x), .int .i64 (y), .int .i64 (c), .int .i64 (d)]; have H1 := Lib.hid h1; have HKI := Lib.hid KI; obtain ⟨zI, TI, FI⟩ := KI.open_; obtain ⟨b, tt, pre, post, off, gm, gs, fx⟩ := P; dsimp only at *; clear h h1 KI hB
  have e21 := H1.out.c21; have e22 := H1.out.c22; have e18 := H1.out.c18; have e19 := H1.out.c19
  have z21 := H1.out.frozen (off + 21); have z22 := H1.out.frozen (off + 22)
  dsimp only at e21 e22 e18 e19 z21 z22
  obtain ⟨Am, cpm, hvm, _⟩ := H1.out.m
  rw [intCells_length] at hvm
  rw [hvm] at e18
  obtain ⟨As, cps, hvs, _⟩ := H1.out.s
  rw [H1.out.l.1.1] at hvs
  rw [hvs] at e19
  clear hvm hvs
  have f0 := HB.out.f0; have f1 := HB.out.f1; have s0 := HB.out.s0; have s1 := HB.out.s1; have ml := HB.out.ml; have sl := HB.out.sl
  have g1 : decide (M.fp - x < 0) = false := by simpa using h1'
  go_enter Tryd.func35, Tryd.ntmps35
  go_wp2_with fail
  rw [← hw1]
  clear hw1
  go_quiet (fail)
  go_wp2_with fail
  go_quiet (fail)
  go_wp2_with fail
  go_ret
  exact ⟨rfl, H1.out.matE rfl, by repeat' (first | with_reducible (first | assumption | apply Fr.refl | apply Fr.drew | apply Fr.drewN | apply Fr.alloc | apply Fr.set) | exact .inl rfl | exact .inr (.inl rfl) | exact .inr (.inr rfl) | (apply Fr.of; assumption))⟩
theorem rs_29c (h : MOn w P M vm vs vc vi vo sv) (hB : MBd M) (x y : Int) (x0 : 0 ≤ x) (x1 : x ≤ 16384) (y0 : 0 ≤ y) (y1 : y ≤ 16384) (c d : Int) (h1' : ¬ M.fp - x < 0) (h2' : ¬ (M.m.length : Int) < M.fp - x) (h3' : M.sb - y < 0) :
    SC w P (29) (x) (y) (c) (d) ((12, M)) := by
  unfold SC
  have HB := Lib.hid hB
  have hgm0 := h.gm; have hgs0 := h.gs
  obtain ⟨w1, hw1, h1, hbw, KI, hlt, hlt0, hne0, hne⟩ := h.al 42 #[.int .u8 (29), .int .i64 (x), .int .i64 (y), .int .i64 (c), .int .i64 (d)]; have H1 := Lib.hid h1; have HKI := Lib.hid KI; obtain ⟨zI, TI, FI⟩ := KI.open_; obtain ⟨b, tt, pre, post, off, gm, gs, fx⟩ := P; dsimp only at *; clear h h1 KI hB
  have e21 := H1.out.c21; have e22 := H1.out.c22; have e18 := H1.out.c18; have e19 := H1.out.c19
  have z21 := H1.out.frozen (off + 21); have z22 := H1.out.frozen (off + 22)
  dsimp only at e21 e22 e18 e19 z21 z22
  obtain ⟨Am, cpm, hvm, _⟩ := H1.out.m
  rw [intCells_length] at hvm
  rw [hvm] at e18
  obtain ⟨As, cps, hvs, _⟩ := H1.out.s
  rw [H1.out.l.1.1] at hvs
  rw [hvs] at e19
  clear hvm hvs
  have f0 := HB.out.f0; have f1 := HB.out.f1; have s0 := HB.out.s0; have s1 := HB.out.s1; have ml := HB.out.ml; have sl := HB.out.sl
  have g1 : decide (M.fp - x < 0) = false := by simpa using h1'
  go_enter Tryd.func35, Tryd.ntmps35
  go_wp2_with fail
  rw [← hw1]
  clear hw1
  go_quiet (fail)
  go_wp2_with fail
  go_quiet (fail)
  go_wp2_with fail
  go_ret
  exact ⟨rfl, H1.out.matE rfl, by repeat' (first | with_reducible (first | assumption | apply Fr.refl | apply Fr.drew | apply Fr.drewN | apply Fr.alloc | apply Fr.set) | exact .inl rfl | exact .inr (.inl rfl) | exact .inr (.inr rfl) | (apply Fr.of; assumption))⟩
theorem rs_29d (h : MOn w P M vm vs vc vi vo sv) (hB : MBd M) (x y : Int) (x0 : 0 ≤ x) (x1 : x ≤ 16384) (y0 : 0 ≤ y) (y1 : y ≤ 16384) (c d : Int) (h1' : ¬ M.fp - x < 0) (h2' : ¬ (M.m.length : Int) < M.fp - x) (h3' : ¬ M.sb - y < 0) (h4' : (M.s.length : Int) < M.sb - y) :
    SC w P (29) (x) (y) (c) (d) ((12, M)) := by
  unfold SC
  have HB := Lib.hid hB
  have hgm0 := h.gm; have hgs0 := h.gs
  obtain ⟨w1, hw1, h1, hbw, KI, hlt, hlt0, hne0, hne⟩ := h.al 42 #[.int .u8 (29), .int .i64 (x), .int .i64 (y), .int .i64 (c), .int .i64 (d)]; have H1 := Lib.hid h1; have HKI := Lib.hid KI; obtain ⟨zI, TI, FI⟩ := KI.open_; obtain ⟨b, tt, pre, post, off, gm, gs, fx⟩ := P; dsimp only at *; clear h h1 KI hB
  have e21 := H1.out.c21; have e22 := H1.out.c22; have e18 := H1.out.c18; have e19 := H1.out.c19
  have z21 := H1.out.frozen (off + 21); have z22 := H1.out.frozen (off + 22)
  dsimp only at e21 e22 e18 e19 z21 z22
  obtain ⟨Am, cpm, hvm, _⟩ := H1.out.m
  rw [intCells_length] at hvm
  rw [hvm] at e18
  obtain ⟨As, cps, hvs, _⟩ := H1.out.s
  rw [H1.out.l.1.1] at hvs
  rw [hvs] at e19
  clear hvm hvs
  have f0 := HB.out.f0; have f1 := HB.out.f1; have s0 := HB.out.s0; have s1 := HB.out.s1; have ml := HB.out.ml; have sl := HB.out.sl
  have g1 : decide (M.fp - x < 0) = false := by simpa using h1'
  go_enter Tryd.func35, Tryd.ntmps35
  go_wp2_with fail
  rw [← hw1]
  clear hw1
  go_quiet (fail)
  go_wp2_with fail
  go_quiet (fail)
  go_wp2_with fail
  go_ret
  exact ⟨rfl, H1.out.matE rfl, by repeat' (first | with_reducible (first | assumption | apply Fr.refl | apply Fr.drew | apply Fr.drewN | apply Fr.alloc | apply Fr.set) | exact .inl rfl | exact .inr (.inl rfl) | exact .inr (.inr rfl) | (apply Fr.of; assumption))⟩
theorem rs_29e (h : MOn w P M vm vs vc vi vo sv) (hB : MBd M) (x y : Int) (x0 : 0 ≤ x) (x1 : x ≤ 16384) (y0 : 0 ≤ y) (y1 : y ≤ 16384) (c d : Int) (h1' : ¬ M.fp - x < 0) (h2' : ¬ (M.m.length : Int) < M.fp - x) (h3' : ¬ M.sb - y < 0) (h4' : ¬ (M.s.length : Int) < M.sb - y) :
    SC w P (29) (x) (y) (c) (d) ((0, { M with fp := M.fp - x, sb := M.sb - y })) := by
  unfold SC
  have HB := Lib.hid hB
  have hgm0 := h.gm; have hgs0 := h.gs
  obtain ⟨w1, hw1, h1, hbw, KI, hlt, hlt0, hne0, hne⟩ := h.al 42 #[.int .u8 (29), .int .i64 (x), .int .i64 (y), .int .i64 (c), .int .i64 (d)]; have H1 := Lib.hid h1; have HKI := Lib.hid KI; obtain ⟨zI, TI, FI⟩ := KI.open_; obtain ⟨b, tt, pre, post, off, gm, gs, fx⟩ := P; dsimp only at *; clear h h1 KI hB
  have e21 := H1.out.c21; have e22 := H1.out.c22; have e18 := H1.out.c18; have e19 := H1.out.c19
  have z21 := H1.out.frozen (off + 21); have z22 := H1.out.frozen (off + 22)
  dsimp only at e21 e22 e18 e19 z21 z22
  obtain ⟨Am, cpm, hvm, _⟩ := H1.out.m
  rw [intCells_length] at hvm
  rw [hvm] at e18
  obtain ⟨As, cps, hvs, _⟩ := H1.out.s
  rw [H1.out.l.1.1] at hvs
  rw [hvs] at e19
  clear hvm hvs
  have f0 := HB.out.f0; have f1 := HB.out.f1; have s0 := HB.out.s0; have s1 := HB.out.s1; have ml := HB.out.ml; have sl := HB.out.sl
  have g1 : decide (M.fp - x < 0) = false := by simpa using h1'
  go_enter Tryd.func35, Tryd.ntmps35
  go_wp2_with fail
  rw [← hw1]
  clear hw1
  go_quiet (fail)
  go_wp2_with fail
  go_quiet (fail)
  go_wp2_with fail
  go_ret
  exact ⟨rfl, ((H1.out.setFp (M.fp - x)).setSb (M.sb - y)).matE rfl, by repeat' (first | with_reducible (first | assumption | apply Fr.refl | apply Fr.drew | apply Fr.drewN | apply Fr.alloc | apply Fr.set) | exact .inl rfl | exact .inr (.inl rfl) | exact .inr (.inr rfl) | (apply Fr.of; assumption))⟩
end Go.Proofs.YteocbllbljeajaaDoor

/- straight: the tapes. -/
set_option maxRecDepth 100000
set_option maxHeartbeats 8000000
set_option maxRecDepth 100000
set_option linter.unusedVariables false
set_option linter.unusedSimpArgs false
namespace Go.Proofs.YteocbllbljeajaaDoor
open Go.RowKit Bk
variable {w : World} {D : Nat → Prop} {P : Pl} {M : Mach} {vm vs vc vi vo : Value} {sv : List Value}
theorem rs_17_none (h : MOn w P M vm vs vc vi vo sv) (hB : MBd M) (a : Nat) (ha : a < 16) (i c d : Int) (hf : M.inp.length = 0) :
    SC w P (17) ((a : Nat)) (i) (c) (d) ((17, M)) := by
  unfold SC
  have HB := Lib.hid hB
  have HZ := Lib.hid hf; clear hf
  have hgm0 := h.gm; have hgs0 := h.gs
  obtain ⟨w1, hw1, h1, hbw, KI, hlt, hlt0, hne0, hne⟩ := h.al 42 #[.int .u8 (17), .int .i64 ((a : Nat)), .int .i64 (i), .int .i64 (c), .int .i64 (d)]; have H1 := Lib.hid h1; obtain ⟨er_a, zr_a, i0_a, i1_a⟩ := h1.rg a ha; have HKI := Lib.hid KI; obtain ⟨zI, TI, FI⟩ := KI.open_; obtain ⟨b, tt, pre, post, off, gm, gs, fx⟩ := P; dsimp only at *; clear h h1 KI hB
  have e23 := H1.out.c23; have z23 := H1.out.frozen (off + 23); have e24 := H1.out.c24; have z24 := H1.out.frozen (off + 24)
  dsimp only at e23 z23 e24 z24
  obtain ⟨Ai, ci, rfl, hci, hAi, hRi⟩ := H1.out.l.2.2.1
  obtain ⟨Ao, co, rfl, hco, hAo, hRo⟩ := H1.out.l.2.2.2
  have il := HB.out.il; have ol := HB.out.ol
  have HAi := Lib.hid hAi; have HRi := Lib.hid hRi; have HAo := Lib.hid hAo; have HRo := Lib.hid hRo; have HCi := Lib.hid hci; have HCo := Lib.hid hco
  clear hAi hRi hAo hRo hci hco
  rw [HZ.out] at e23
  go_enter Tryd.func35, Tryd.ntmps35
  go_upto_region 78 with fail
  rw [← hw1]
  clear hw1
  go_wp2_with fail
  go_ret
  exact ⟨rfl, H1.out.matE rfl, by repeat' (first | with_reducible (first | assumption | apply Fr.refl | apply Fr.drew | apply Fr.drewN | apply Fr.alloc | apply Fr.set) | exact .inl rfl | exact .inr (.inl rfl) | exact .inr (.inr rfl) | (apply Fr.of; assumption))⟩
theorem rs_17_clear (h : MOn w P M vm vs vc vi vo sv) (hB : MBd M) (a : Nat) (ha : a < 16) (i c d : Int) (hf : M.inp.length ≠ 0) (hr : M.reg a ≠ 0) :
    SC w P (17) ((a : Nat)) (i) (c) (d) ((14, M)) := by
  unfold SC
  have HB := Lib.hid hB
  obtain ⟨m, hm⟩ : ∃ m, M.inp.length = m + 1 := ⟨M.inp.length - 1, by omega⟩
  have HM1 := Lib.hid hm
  clear hm hf
  have hr' : (M.reg a != 0) = true := by simpa using hr
  clear hr
  have hgm0 := h.gm; have hgs0 := h.gs
  obtain ⟨w1, hw1, h1, hbw, KI, hlt, hlt0, hne0, hne⟩ := h.al 42 #[.int .u8 (17), .int .i64 ((a : Nat)), .int .i64 (i), .int .i64 (c), .int .i64 (d)]; have H1 := Lib.hid h1; obtain ⟨er_a, zr_a, i0_a, i1_a⟩ := h1.rg a ha; have HKI := Lib.hid KI; obtain ⟨zI, TI, FI⟩ := KI.open_; obtain ⟨b, tt, pre, post, off, gm, gs, fx⟩ := P; dsimp only at *; clear h h1 KI hB
  have e23 := H1.out.c23; have z23 := H1.out.frozen (off + 23); have e24 := H1.out.c24; have z24 := H1.out.frozen (off + 24)
  dsimp only at e23 z23 e24 z24
  obtain ⟨Ai, ci, rfl, hci, hAi, hRi⟩ := H1.out.l.2.2.1
  obtain ⟨Ao, co, rfl, hco, hAo, hRo⟩ := H1.out.l.2.2.2
  have il := HB.out.il; have ol := HB.out.ol
  have HAi := Lib.hid hAi; have HRi := Lib.hid hRi; have HAo := Lib.hid hAo; have HRo := Lib.hid hRo; have HCi := Lib.hid hci; have HCo := Lib.hid hco
  clear hAi hRi hAo hRo hci hco
  rw [HM1.out] at e23 il
  go_enter Tryd.func35, Tryd.ntmps35
  go_upto_region 78 with fail
  rw [← hw1]
  clear hw1
  go_wp2_with fail
  go_quiet (fail)
  go_wp2_with fail
  go_ret
  exact ⟨rfl, H1.out.matE rfl, by repeat' (first | with_reducible (first | assumption | apply Fr.refl | apply Fr.drew | apply Fr.drewN | apply Fr.alloc | apply Fr.set) | exact .inl rfl | exact .inr (.inl rfl) | exact .inr (.inr rfl) | (apply Fr.of; assumption))⟩
theorem rs_20_none (h : MOn w P M vm vs vc vi vo sv) (hB : MBd M) (a : Nat) (ha : a < 16) (i c d : Int) (hf : M.out.length = 0) :
    SC w P (20) ((a : Nat)) (i) (c) (d) ((17, M)) := by
  unfold SC
  have HB := Lib.hid hB
  have HZ := Lib.hid hf; clear hf
  have hgm0 := h.gm; have hgs0 := h.gs
  obtain ⟨w1, hw1, h1, hbw, KI, hlt, hlt0, hne0, hne⟩ := h.al 42 #[.int .u8 (20), .int .i64 ((a : Nat)), .int .i64 (i), .int .i64 (c), .int .i64 (d)]; have H1 := Lib.hid h1; obtain ⟨er_a, zr_a, i0_a, i1_a⟩ := h1.rg a ha; have HKI := Lib.hid KI; obtain ⟨zI, TI, FI⟩ := KI.open_; obtain ⟨b, tt, pre, post, off, gm, gs, fx⟩ := P; dsimp only at *; clear h h1 KI hB
  have e23 := H1.out.c23; have z23 := H1.out.frozen (off + 23); have e24 := H1.out.c24; have z24 := H1.out.frozen (off + 24)
  dsimp only at e23 z23 e24 z24
  obtain ⟨Ai, ci, rfl, hci, hAi, hRi⟩ := H1.out.l.2.2.1
  obtain ⟨Ao, co, rfl, hco, hAo, hRo⟩ := H1.out.l.2.2.2
  have il := HB.out.il; have ol := HB.out.ol
  have HAi := Lib.hid hAi; have HRi := Lib.hid hRi; have HAo := Lib.hid hAo; have HRo := Lib.hid hRo; have HCi := Lib.hid hci; have HCo := Lib.hid hco
  clear hAi hRi hAo hRo hci hco
  rw [HZ.out] at e24
  go_enter Tryd.func35, Tryd.ntmps35
  go_upto_region 95 with fail
  rw [← hw1]
  clear hw1
  go_wp2_with fail
  go_ret
  exact ⟨rfl, H1.out.matE rfl, by repeat' (first | with_reducible (first | assumption | apply Fr.refl | apply Fr.drew | apply Fr.drewN | apply Fr.alloc | apply Fr.set) | exact .inl rfl | exact .inr (.inl rfl) | exact .inr (.inr rfl) | (apply Fr.of; assumption))⟩
theorem rs_20_clear (h : MOn w P M vm vs vc vi vo sv) (hB : MBd M) (a : Nat) (ha : a < 16) (i c d : Int) (hf : M.out.length ≠ 0) (hr : M.reg a ≠ 0) :
    SC w P (20) ((a : Nat)) (i) (c) (d) ((14, M)) := by
  unfold SC
  have HB := Lib.hid hB
  obtain ⟨m, hm⟩ : ∃ m, M.out.length = m + 1 := ⟨M.out.length - 1, by omega⟩
  have HM1 := Lib.hid hm
  clear hm hf
  have hr' : (M.reg a != 0) = true := by simpa using hr
  clear hr
  have hgm0 := h.gm; have hgs0 := h.gs
  obtain ⟨w1, hw1, h1, hbw, KI, hlt, hlt0, hne0, hne⟩ := h.al 42 #[.int .u8 (20), .int .i64 ((a : Nat)), .int .i64 (i), .int .i64 (c), .int .i64 (d)]; have H1 := Lib.hid h1; obtain ⟨er_a, zr_a, i0_a, i1_a⟩ := h1.rg a ha; have HKI := Lib.hid KI; obtain ⟨zI, TI, FI⟩ := KI.open_; obtain ⟨b, tt, pre, post, off, gm, gs, fx⟩ := P; dsimp only at *; clear h h1 KI hB
  have e23 := H1.out.c23; have z23 := H1.out.frozen (off + 23); have e24 := H1.out.c24; have z24 := H1.out.frozen (off + 24)
  dsimp only at e23 z23 e24 z24
  obtain ⟨Ai, ci, rfl, hci, hAi, hRi⟩ := H1.out.l.2.2.1
  obtain ⟨Ao, co, rfl, hco, hAo, hRo⟩ := H1.out.l.2.2.2
  have il := HB.out.il; have ol := HB.out.ol
  have HAi := Lib.hid hAi; have HRi := Lib.hid hRi; have HAo := Lib.hid hAo; have HRo := Lib.hid hRo; have HCi := Lib.hid hci; have HCo := Lib.hid hco
  clear hAi hRi hAo hRo hci hco
  rw [HM1.out] at e24 ol
  go_enter Tryd.func35, Tryd.ntmps35
  go_upto_region 95 with fail
  rw [← hw1]
  clear hw1
  go_wp2_with fail
  go_quiet (fail)
  go_wp2_with fail
  go_ret
  exact ⟨rfl, H1.out.matE rfl, by repeat' (first | with_reducible (first | assumption | apply Fr.refl | apply Fr.drew | apply Fr.drewN | apply Fr.alloc | apply Fr.set) | exact .inl rfl | exact .inr (.inl rfl) | exact .inr (.inr rfl) | (apply Fr.of; assumption))⟩
theorem rs_18_full (h : MOn w P M vm vs vc vi vo sv) (hB : MBd M) (a : Nat) (ha : a < 16) (i c d : Int) (hf : 4096 ≤ M.inp.length) :
    SC w P (18) ((a : Nat)) (i) (c) (d) ((5, M)) := by
  unfold SC
  have HB := Lib.hid hB
  have hf' : ¬ (M.inp.length : Int) < 4096 := by omega
  have hf2 : (4096 : Int) ≤ (M.inp.length : Int) := by omega
  have hgm0 := h.gm; have hgs0 := h.gs
  obtain ⟨w1, hw1, h1, hbw, KI, hlt, hlt0, hne0, hne⟩ := h.al 42 #[.int .u8 (18), .int .i64 ((a : Nat)), .int .i64 (i), .int .i64 (c), .int .i64 (d)]; have H1 := Lib.hid h1; obtain ⟨er_a, zr_a, i0_a, i1_a⟩ := h1.rg a ha; have HKI := Lib.hid KI; obtain ⟨zI, TI, FI⟩ := KI.open_; obtain ⟨b, tt, pre, post, off, gm, gs, fx⟩ := P; dsimp only at *; clear h h1 KI hB
  have e23 := H1.out.c23; have z23 := H1.out.frozen (off + 23); have e24 := H1.out.c24; have z24 := H1.out.frozen (off + 24)
  dsimp only at e23 z23 e24 z24
  obtain ⟨Ai, ci, rfl, hci, hAi, hRi⟩ := H1.out.l.2.2.1
  obtain ⟨Ao, co, rfl, hco, hAo, hRo⟩ := H1.out.l.2.2.2
  have il := HB.out.il; have ol := HB.out.ol
  have HAi := Lib.hid hAi; have HRi := Lib.hid hRi; have HAo := Lib.hid hAo; have HRo := Lib.hid hRo; have HCi := Lib.hid hci; have HCo := Lib.hid hco
  clear hAi hRi hAo hRo hci hco
  go_enter Tryd.func35, Tryd.ntmps35
  go_upto_region 85 with fail
  rw [← hw1]
  clear hw1
  go_wp2_with fail
  go_ret
  exact ⟨rfl, H1.out.matE rfl, by repeat' (first | with_reducible (first | assumption | apply Fr.refl | apply Fr.drew | apply Fr.drewN | apply Fr.alloc | apply Fr.set) | exact .inl rfl | exact .inr (.inl rfl) | exact .inr (.inr rfl) | (apply Fr.of; assumption))⟩
theorem rs_19_full (h : MOn w P M vm vs vc vi vo sv) (hB : MBd M) (a : Nat) (ha : a < 16) (i c d : Int) (hf : 4096 ≤ M.out.length) :
    SC w P (19) ((a : Nat)) (i) (c) (d) ((5, M)) := by
  unfold SC
  have HB := Lib.hid hB
  have hf' : ¬ (M.out.length : Int) < 4096 := by omega
  have hf2 : (4096 : Int) ≤ (M.out.length : Int) := by omega
  have hgm0 := h.gm; have hgs0 := h.gs
  obtain ⟨w1, hw1, h1, hbw, KI, hlt, hlt0, hne0, hne⟩ := h.al 42 #[.int .u8 (19), .int .i64 ((a : Nat)), .int .i64 (i), .int .i64 (c), .int .i64 (d)]; have H1 := Lib.hid h1; obtain ⟨er_a, zr_a, i0_a, i1_a⟩ := h1.rg a ha; have HKI := Lib.hid KI; obtain ⟨zI, TI, FI⟩ := KI.open_; obtain ⟨b, tt, pre, post, off, gm, gs, fx⟩ := P; dsimp only at *; clear h h1 KI hB
  have e23 := H1.out.c23; have z23 := H1.out.frozen (off + 23); have e24 := H1.out.c24; have z24 := H1.out.frozen (off + 24)
  dsimp only at e23 z23 e24 z24
  obtain ⟨Ai, ci, rfl, hci, hAi, hRi⟩ := H1.out.l.2.2.1
  obtain ⟨Ao, co, rfl, hco, hAo, hRo⟩ := H1.out.l.2.2.2
  have il := HB.out.il; have ol := HB.out.ol
  have HAi := Lib.hid hAi; have HRi := Lib.hid hRi; have HAo := Lib.hid hAo; have HRo := Lib.hid hRo; have HCi := Lib.hid hci; have HCo := Lib.hid hco
  clear hAi hRi hAo hRo hci hco
  go_enter Tryd.func35, Tryd.ntmps35
  go_upto_region 90 with fail
  rw [← hw1]
  clear hw1
  go_wp2_with fail
  go_ret
  exact ⟨rfl, H1.out.matE rfl, by repeat' (first | with_reducible (first | assumption | apply Fr.refl | apply Fr.drew | apply Fr.drewN | apply Fr.alloc | apply Fr.set) | exact .inl rfl | exact .inr (.inl rfl) | exact .inr (.inr rfl) | (apply Fr.of; assumption))⟩
theorem rs_20 (h : MOn w P M vm vs vc vi vo sv) (hB : MBd M) (a : Nat) (ha : a < 16) (i c d : Int) (hf : M.out.length ≠ 0) (hr : M.reg a = 0) :
    SC w P (20) ((a : Nat)) (i) (c) (d) ((0, (M.setR a (M.out.getLastD 0)).setOut M.out.dropLast)) := by
  unfold SC
  have HB := Lib.hid hB
  obtain ⟨m, hm⟩ : ∃ m, M.out.length = m + 1 := ⟨M.out.length - 1, by omega⟩
  have HM1 := Lib.hid hm
  clear hm hf
  have HR := Lib.hid hr; clear hr
  have hgm0 := h.gm; have hgs0 := h.gs
  obtain ⟨w1, hw1, h1, hbw, KI, hlt, hlt0, hne0, hne⟩ := h.al 42 #[.int .u8 (20), .int .i64 ((a : Nat)), .int .i64 (i), .int .i64 (c), .int .i64 (d)]; have H1 := Lib.hid h1; obtain ⟨er_a, zr_a, i0_a, i1_a⟩ := h1.rg a ha; have HKI := Lib.hid KI; obtain ⟨zI, TI, FI⟩ := KI.open_; obtain ⟨b, tt, pre, post, off, gm, gs, fx⟩ := P; dsimp only at *; clear h h1 KI hB
  have e23 := H1.out.c23; have z23 := H1.out.frozen (off + 23); have e24 := H1.out.c24; have z24 := H1.out.frozen (off + 24)
  dsimp only at e23 z23 e24 z24
  obtain ⟨Ai, ci, rfl, hci, hAi, hRi⟩ := H1.out.l.2.2.1
  obtain ⟨Ao, co, rfl, hco, hAo, hRo⟩ := H1.out.l.2.2.2
  have il := HB.out.il; have ol := HB.out.ol
  have HAi := Lib.hid hAi; have HRi := Lib.hid hRi; have HAo := Lib.hid hAo; have HRo := Lib.hid hRo; have HCi := Lib.hid hci; have HCo := Lib.hid hco
  clear hAi hRi hAo hRo hci hco
  rw [HM1.out] at e24 ol
  have hRo := HRo.out
  rw [HM1.out] at hRo
  obtain ⟨bs, os, rfl, _, hcell⟩ := hRo.2 (by omega)
  have el := hcell m _ (intCells_get M.out m (by have := HM1.out; omega))
  rw [last_get HM1.out] at el
  generalize hlv : M.out.getLastD 0 = lv at *
  have HLV := Lib.hid hlv
  have j1 : (0 : Int) ≤ (m : Int) := by omega
  have j2 : (m : Int) < (m : Int) + 1 := by omega
  have hcs : m + 1 ≤ co := by have := HCo.out; have := HM1.out; omega
  have hcs' : m ≤ co := by omega
  have HRo' := Lib.hid hRo
  rw [HR.out] at er_a
  clear hcell hlv hRo
  go_enter Tryd.func35, Tryd.ntmps35
  go_upto_region 95 with fail
  rw [← hw1]
  clear hw1
  go_wp2_with fail
  go_quiet (fail)
  go_wp2_with fail
  refine wp_nameY ?_
  intro w3 hw3
  have H3 := Lib.hid (show MOn w3 ⟨b, tt, pre, post, off, gm, gs, fx⟩ _ _ _ _ _ _ _ from by rw [hw3]; exact H1.out.heap rfl)
  have q1 : w3.cell? ⟨b, off + 2 + a, none⟩ = some (.int .i64 0) := by rw [hw3]; exact er_a
  have q2 : w3.frozen? ⟨b, off + 2 + a, none⟩ = false := by rw [hw3]; exact zr_a
  have q3 : ∀ ix, w3.cell? ⟨w.heap.size, ix, none⟩ = #[Value.int .u8 20, .int .i64 a, .int .i64 i, .int .i64 c, .int .i64 d][ix]? := by rw [hw3]; exact TI
  have HF3 : Hid (Fr (Pl.O ⟨b, tt, pre, post, off, gm, gs, fx⟩) w w3) := Lib.hid (by rw [hw3]; exact (Fr.of hbw).drewN _)
  have r_e24 : w3.cell? ⟨b, off + 24, none⟩ = some (.slice (some ⟨bs, os, none⟩) (m + 1) co) := by rw [hw3]; exact e24
  have r_z24 : w3.frozen? ⟨b, off + 24, none⟩ = false := by rw [hw3]; exact z24
  have r_el : w3.cell? ⟨bs, os + m, none⟩ = some (.int .i64 lv) := by rw [hw3]; exact el
  clear er_a zr_a zI TI FI e23 z23 e24 z24 el
  have HR3 : Hid (Rd w3 (Pl.D ⟨b, tt, pre, post, off, gm, gs, fx⟩ w3) 1 (some ⟨bs, os, none⟩) (m + 1) (intCells M.out)) := Lib.hid (by rw [hw3]; exact HRo'.out)
  clear hw3 hbw H1 HKI HRo HRo' HRi
  go_region
  go_wp2_with fail
  go_region
  go_wp2_with fail
  go_ret
  exact ⟨rfl, ((H3.out.setReg a ha _).setOut _ _ ((Sl.pop HM1.out hcs HAo.out HR3.out).keep MOn.keep1 MOn.dset)).matE rfl, by have HF := HF3.out; repeat' (first | with_reducible (first | assumption | apply Fr.refl | apply Fr.drew | apply Fr.drewN | apply Fr.alloc | apply Fr.set) | exact .inl rfl | exact .inr (.inl rfl) | exact .inr (.inr rfl) | (apply Fr.of; assumption))⟩
end Go.Proofs.YteocbllbljeajaaDoor

/- straight: read, unread, write. -/
set_option maxRecDepth 100000
set_option maxHeartbeats 8000000
set_option maxRecDepth 100000
set_option linter.unusedVariables false
set_option linter.unusedSimpArgs false
namespace Go.Proofs.YteocbllbljeajaaDoor
open Go.RowKit Bk
variable {w : World} {D : Nat → Prop} {P : Pl} {M : Mach} {vm vs vc vi vo : Value} {sv : List Value}
theorem rs_17 (h : MOn w P M vm vs vc vi vo sv) (hB : MBd M) (a : Nat) (ha : a < 16) (i c d : Int) (hf : M.inp.length ≠ 0) (hr : M.reg a = 0) :
    SC w P (17) ((a : Nat)) (i) (c) (d) ((0, (M.setR a (M.inp.headD 0)).setIn M.inp.tail)) := by
  unfold SC
  have HB := Lib.hid hB
  obtain ⟨m, hm⟩ : ∃ m, M.inp.length = m + 1 := ⟨M.inp.length - 1, by omega⟩
  obtain ⟨x0, rr, hxr, hrl⟩ := tail_cells hm
  have HM1 := Lib.hid hm; have HXR := Lib.hid hxr; have HRL := Lib.hid hrl; have HR := Lib.hid hr
  rw [hxr]
  show Calls Tryd.prog 35 #[.pointer (some ⟨P.b, P.off, none⟩), .agg #[.int .u8 (17), .int .i64 ((a : Nat)), .int .i64 (i), .int .i64 (c), .int .i64 (d)]] w (OnM P (0, (M.setR a x0).setIn rr) w)
  clear hm hf hxr hrl hr
  have hgm0 := h.gm; have hgs0 := h.gs
  obtain ⟨w1, hw1, h1, hbw, KI, hlt, hlt0, hne0, hne⟩ := h.al 42 #[.int .u8 (17), .int .i64 ((a : Nat)), .int .i64 (i), .int .i64 (c), .int .i64 (d)]; have H1 := Lib.hid h1; obtain ⟨er_a, zr_a, i0_a, i1_a⟩ := h1.rg a ha; have HKI := Lib.hid KI; obtain ⟨zI, TI, FI⟩ := KI.open_; obtain ⟨b, tt, pre, post, off, gm, gs, fx⟩ := P; dsimp only at *; clear h h1 KI hB
  have e23 := H1.out.c23; have z23 := H1.out.frozen (off + 23); have e24 := H1.out.c24; have z24 := H1.out.frozen (off + 24)
  dsimp only at e23 z23 e24 z24
  obtain ⟨Ai, ci, rfl, hci, hAi, hRi⟩ := H1.out.l.2.2.1
  obtain ⟨Ao, co, rfl, hco, hAo, hRo⟩ := H1.out.l.2.2.2
  have il := HB.out.il; have ol := HB.out.ol
  have HAi := Lib.hid hAi; have HRi := Lib.hid hRi; have HAo := Lib.hid hAo; have HRo := Lib.hid hRo; have HCi := Lib.hid hci; have HCo := Lib.hid hco
  clear hAi hRi hAo hRo hci hco
  have hRi := HRi.out
  have hcii := HCi.out
  rw [HM1.out] at e23 il
  rw [HM1.out] at hRi hcii
  rw [HXR.out] at hRi
  rw [HR.out] at er_a
  obtain ⟨bs, os, rfl, _, hcell⟩ := hRi.2 (by omega)
  have el : w1.cell? ⟨bs, os, none⟩ = some (.int .i64 x0) := hcell 0 _ rfl
  have hRr := hRi.drop1
  have j1 : (0 : Int) ≤ (m : Int) := by omega
  have HRr := Lib.hid hRr
  clear hcell hRi hRr
  by_cases hc1 : ci = 1
  · subst hc1
    obtain rfl : m = 0 := by omega
    have hr0 : rr = [] := List.eq_nil_of_length_eq_zero HRL.out
    subst hr0
    clear hcii j1
    go_enter Tryd.func35, Tryd.ntmps35
    go_upto_region 78 with fail
    rw [← hw1]
    clear hw1
    go_wp2_with fail
    go_quiet (fail)
    go_wp2_with fail
    refine wp_nameY ?_
    intro w3 hw3
    have H3 := Lib.hid (show MOn w3 ⟨b, tt, pre, post, off, gm, gs, fx⟩ _ _ _ _ _ _ _ from by rw [hw3]; exact H1.out.heap rfl)
    have q1 : w3.cell? ⟨b, off + 2 + a, none⟩ = some (.int .i64 0) := by rw [hw3]; exact er_a
    have q2 : w3.frozen? ⟨b, off + 2 + a, none⟩ = false := by rw [hw3]; exact zr_a
    have q3 : ∀ ix, w3.cell? ⟨w.heap.size, ix, none⟩ = #[Value.int .u8 17, .int .i64 a, .int .i64 i, .int .i64 c, .int .i64 d][ix]? := by rw [hw3]; exact TI
    have HF3 : Hid (Fr (Pl.O ⟨b, tt, pre, post, off, gm, gs, fx⟩) w w3) := Lib.hid (by rw [hw3]; exact (Fr.of hbw).drewN _)
    have r_e23 : w3.cell? ⟨b, off + 23, none⟩ = some (.slice (some ⟨bs, os, none⟩) (0 + 1) 1) := by rw [hw3]; exact e23
    have r_z23 : w3.frozen? ⟨b, off + 23, none⟩ = false := by rw [hw3]; exact z23
    have r_el : w3.cell? ⟨bs, os, none⟩ = some (.int .i64 x0) := by rw [hw3]; exact el
    clear er_a zr_a zI TI FI e23 z23 e24 z24 el
    clear hw3 hbw H1 HKI HRo HRr HRi
    go_region
    go_wp2_with fail
    go_ret
    exact ⟨rfl, ((H3.out.setReg a ha x0).setIn _ [] ((Sl.empty (fun h => by cases h)))).matE rfl, by have HF := HF3.out; repeat' (first | with_reducible (first | assumption | apply Fr.refl | apply Fr.drew | apply Fr.drewN | apply Fr.alloc | apply Fr.set) | exact .inl rfl | exact .inr (.inl rfl) | exact .inr (.inr rfl) | (apply Fr.of; assumption))⟩
  · obtain ⟨cc, rfl⟩ : ∃ cc, ci = cc + 1 := ⟨ci - 1, by omega⟩
    have hcc : 0 < cc := by omega
    have hcc' : m ≤ cc := by omega
    clear hc1
    go_enter Tryd.func35, Tryd.ntmps35
    go_upto_region 78 with fail
    rw [← hw1]
    clear hw1
    go_wp2_with fail
    go_quiet (fail)
    go_wp2_with fail
    refine wp_nameY ?_
    intro w3 hw3
    have H3 := Lib.hid (show MOn w3 ⟨b, tt, pre, post, off, gm, gs, fx⟩ _ _ _ _ _ _ _ from by rw [hw3]; exact H1.out.heap rfl)
    have q1 : w3.cell? ⟨b, off + 2 + a, none⟩ = some (.int .i64 0) := by rw [hw3]; exact er_a
    have q2 : w3.frozen? ⟨b, off + 2 + a, none⟩ = false := by rw [hw3]; exact zr_a
    have q3 : ∀ ix, w3.cell? ⟨w.heap.size, ix, none⟩ = #[Value.int .u8 17, .int .i64 a, .int .i64 i, .int .i64 c, .int .i64 d][ix]? := by rw [hw3]; exact TI
    have HF3 : Hid (Fr (Pl.O ⟨b, tt, pre, post, off, gm, gs, fx⟩) w w3) := Lib.hid (by rw [hw3]; exact (Fr.of hbw).drewN _)
    have r_e23 : w3.cell? ⟨b, off + 23, none⟩ = some (.slice (some ⟨bs, os, none⟩) (m + 1) (cc + 1)) := by rw [hw3]; exact e23
    have r_z23 : w3.frozen? ⟨b, off + 23, none⟩ = false := by rw [hw3]; exact z23
    have r_el : w3.cell? ⟨bs, os, none⟩ = some (.int .i64 x0) := by rw [hw3]; exact el
    clear er_a zr_a zI TI FI e23 z23 e24 z24 el
    have HR3 : Hid (Rd w3 (Pl.D ⟨b, tt, pre, post, off, gm, gs, fx⟩ w3) 1 (some ⟨bs, os + 1, none⟩) m (intCells rr)) := Lib.hid (by rw [hw3]; exact HRr.out)
    clear hw3 hbw H1 HKI HRo HRr HRi
    go_region
    go_wp2_with fail
    go_ret
    exact ⟨rfl, ((H3.out.setReg a ha x0).setIn _ rr (Sl.keep ⟨some ⟨bs, os + 1, none⟩, cc, by rw [HRL.out], by rw [HRL.out]; exact hcc', (fun h => by cases h), by rw [HRL.out]; exact HR3.out⟩ MOn.keep1 MOn.dset)).matE rfl, by have HF := HF3.out; repeat' (first | with_reducible (first | assumption | apply Fr.refl | apply Fr.drew | apply Fr.drewN | apply Fr.alloc | apply Fr.set) | exact .inl rfl | exact .inr (.inl rfl) | exact .inr (.inr rfl) | (apply Fr.of; assumption))⟩
theorem rs_18 (h : MOn w P M vm vs vc vi vo sv) (hB : MBd M) (a : Nat) (ha : a < 16) (i c d : Int) (hf : M.inp.length < 4096) :
    SC w P (18) ((a : Nat)) (i) (c) (d) ((0, (M.setIn (M.reg a :: M.inp)).setR a 0)) := by
  unfold SC
  have HB := Lib.hid hB
  have hf2 : ¬ (4096 : Int) ≤ (M.inp.length : Int) := by omega
  have hgm0 := h.gm; have hgs0 := h.gs
  obtain ⟨w1, hw1, h1, hbw, KI, hlt, hlt0, hne0, hne⟩ := h.al 42 #[.int .u8 (18), .int .i64 ((a : Nat)), .int .i64 (i), .int .i64 (c), .int .i64 (d)]; have H1 := Lib.hid h1; obtain ⟨er_a, zr_a, i0_a, i1_a⟩ := h1.rg a ha; have HKI := Lib.hid KI; obtain ⟨zI, TI, FI⟩ := KI.open_; obtain ⟨b, tt, pre, post, off, gm, gs, fx⟩ := P; dsimp only at *; clear h h1 KI hB
  have e23 := H1.out.c23; have z23 := H1.out.frozen (off + 23); have e24 := H1.out.c24; have z24 := H1.out.frozen (off + 24)
  dsimp only at e23 z23 e24 z24
  obtain ⟨Ai, ci, rfl, hci, hAi, hRi⟩ := H1.out.l.2.2.1
  obtain ⟨Ao, co, rfl, hco, hAo, hRo⟩ := H1.out.l.2.2.2
  have il := HB.out.il; have ol := HB.out.ol
  have HAi := Lib.hid hAi; have HRi := Lib.hid hRi; have HAo := Lib.hid hAo; have HRo := Lib.hid hRo; have HCi := Lib.hid hci; have HCo := Lib.hid hco
  clear hAi hRi hAo hRo hci hco
  go_enter Tryd.func35, Tryd.ntmps35
  go_upto_region 85 with fail
  rw [← hw1]
  clear hw1
  go_wp2_with fail
  have HSL := Lib.hid (show Sl w1 (Pl.D ⟨b, tt, pre, post, off, gm, gs, fx⟩ w1) 1 (.slice Ai M.inp.length ci) M.inp.length (intCells M.inp) from ⟨Ai, ci, rfl, HCi.out, HAi.out, HRi.out⟩)
  obtain ⟨i9, li, lz, ls, lb⟩ := info_parts info_intP
  refine wp_region_heldL (S := fun W => Below w1.heap.size w1 W) 16 (by kernel_rfl) ((Below.refl _ _).drew) (fun hH => ?_)
  refine wpAnyL_at ?_
  intro wa hwa
  have hX : Below w1.heap.size w1 wa := by rw [hwa]; exact (Below.refl _ _).drew
  replace hH := hX
  clear hwa
  refine tkL 0 (v := ?_) rfl (by kernel_rfl) (fun _ _ _ h => h) (by rfl) ?hy hH ?_
  case hy => (intro w9_ hS9; clear hS9; go_simp; try with_reducible rfl)
  (try simp only [Bk.PU, Act.put])
  refine tkL 1 (v := ?_) rfl (by kernel_rfl) (fun _ _ _ h => h) (by rfl) ?hy hH ?_
  case hy => (intro w9_ hS9; clear hS9; go_simp; try with_reducible rfl)
  (try simp only [Bk.PU, Act.put])
  refine tkL 2 (v := ?_) rfl (by kernel_rfl) (fun _ _ _ h => h) (by rfl) ?hy hH ?_
  case hy => (intro w9_ hS9; clear hS9; go_simp; try with_reducible rfl)
  (try simp only [Bk.PU, Act.put])
  refine tkL 3 (v := ?_) rfl (by kernel_rfl) (fun _ _ _ h => h) (by rfl) ?hy hH ?_
  case hy => (intro w9_ hS9; have t := (HKI.out.next hS9).cell; clear hS9; go_simp; try with_reducible rfl)
  (try simp only [Bk.PU, Act.put])
  refine tkL 4 (v := ?_) rfl (by kernel_rfl) (fun _ _ _ h => h) (by rfl) ?hy hH ?_
  case hy => (intro w9_ hS9; clear hS9; go_simp; try with_reducible rfl)
  (try simp only [Bk.PU, Act.put])
  refine tkL 5 (v := ?_) rfl (by kernel_rfl) (fun _ _ _ h => h) (by rfl) ?hy hH ?_
  case hy => (intro w9_ hS9; clear hS9; go_simp; try with_reducible rfl)
  (try simp only [Bk.PU, Act.put])
  refine tkL 6 (v := ?_) rfl (by kernel_rfl) (fun _ _ _ h => h) (by rfl) ?hy hH ?_
  case hy => (intro w9_ hS9; clear hS9; go_simp; try with_reducible rfl)
  (try simp only [Bk.PU, Act.put])
  refine tkL 7 (v := ?_) rfl (by kernel_rfl) (fun _ _ _ h => h) (by rfl) ?hy hH ?_
  case hy => (intro w9_ hS9; have t := (hS9.cell (p := ⟨b, off + 2 + a, none⟩) hlt).trans er_a; clear hS9; go_simp; try with_reducible rfl)
  (try simp only [Bk.PU, Act.put])
  refine tkL 9 (v := ?_) rfl (by kernel_rfl) (fun _ _ _ h => h) (by rfl) ?hy hH ?_
  case hy => (intro w9_ hS9; clear hS9; go_simp; try with_reducible rfl)
  (try simp only [Bk.PU, Act.put])
  refine tkL 10 (v := ?_) rfl (by kernel_rfl) (fun _ _ _ h => h) (by rfl) ?hy hH ?_
  case hy => (intro w9_ hS9; clear hS9; go_simp; try with_reducible rfl)
  (try simp only [Bk.PU, Act.put])
  refine tkL 11 (v := ?_) rfl (by kernel_rfl) (fun _ _ _ h => h) (by rfl) ?hy hH ?_
  case hy => (intro w9_ hS9; clear hS9; go_simp; try with_reducible rfl)
  (try simp only [Bk.PU, Act.put])
  refine tkL 12 (v := ?_) rfl (by kernel_rfl) (fun _ _ _ h => h) (by rfl) ?hy hH ?_
  case hy => (intro w9_ hS9; have t := (hS9.cell (p := ⟨b, off + 23, none⟩) hlt).trans e23; clear hS9; go_simp; try with_reducible rfl)
  (try simp only [Bk.PU, Act.put])
  refine wpAnyL_next (i := 8) rfl (by kernel_rfl) (fun K hK => ?_)
  go_simp
  replace hH : Below w1.heap.size w1 _ := hX.alloc (by have := hX.size; omega) (.cells #[.int .i64 (M.reg a)] 3)
  refine hK.out _ _ hH (fun _ => ?_)
  clear hK
  (try simp only [Bk.PU, Act.put])
  refine wpAnyL_at ?_
  intro wb hwn
  have hbn : Below wa.heap.size wa wb := by rw [hwn]; exact (Below.refl _ _).alloc (Nat.le_refl _) _
  have K8 : Blk wb wa.heap.size 3 #[.int .i64 (M.reg a)] := by rw [hwn]; exact Blk.new _ _ _
  have hz8 : w1.heap.size ≤ wa.heap.size := hX.size
  replace hX := hX.next hbn
  replace hH := hX
  clear hwn hbn
  refine wpAnyL_next (i := 13) rfl (by kernel_rfl) (fun K hK => ?_)
  rw [if_pos (by rfl)]
  refine wp_appS (.tmp 600) (.tmp 604) 26 rfl w1.heap.size 3 i9 _ 1 8 Tryd.underlying26 li lz ls lb rfl (by decide) (.slice (some ⟨wa.heap.size, 0, none⟩) 1 1) 1 [.int .i64 (M.reg a)] (by simp [Act.eval]) (own_blk1 K8 hz8) (by simp [Act.eval]) (HSL.out.upD (fun k hk => hk.1) hX) (oneInt _) (by unfold maxLen; omega) (by omega) hX.size ?_
  intro v2 wc hown2 hgr2 hat2
  replace hX := hX.grown hgr2 hX.size (fun k hk => by simp [Value.ownBlock] at hk; omega)
  replace hH := hX
  have HS2 := Lib.hid (show Sl wc (fun k => w1.heap.size ≤ k ∧ k < wc.heap.size) 1 v2 (M.reg a :: M.inp).length (intCells (M.reg a :: M.inp)) from by have h2 := Sl.of_own hown2; rw [List.length_cons, Nat.add_comm]; simpa [intCells] using h2)
  obtain ⟨A2, c2, rfl⟩ := own_form hown2
  have E2 : wc.cell? ⟨b, off + 23, none⟩ = some (.slice Ai M.inp.length ci) := (hX.cell (p := ⟨b, off + 23, none⟩) hlt).trans e23
  have F2 : wc.frozen? ⟨b, off + 23, none⟩ = false := ((bcell hX).2 b (off + 23) hlt).trans z23
  clear hown2 hgr2 hat2 K8
  refine hK.out _ _ hH (fun _ => ?_)
  clear hK
  (try simp only [Bk.PU, Act.put])
  refine wpAnyL_next (i := 14) rfl (by kernel_rfl) (fun K hK => ?_)
  go_simp
  refine hK.out _ _ hH (fun _ => ?_)
  clear hK
  (try simp only [Bk.PU, Act.put])
  refine tkL 15 (v := ?_) rfl (by kernel_rfl) (fun _ _ _ h => h) (by rfl) ?hy hH ?_
  case hy => (intro w9_ hS9; clear hS9; go_simp; try with_reducible rfl)
  (try simp only [Bk.PU, Act.put])
  refine wpAnyL_last (l := 16) rfl (by kernel_rfl) (by kernel_rfl) (fun K hK => ?_)
  go_simp
  refine hK.out _ _ ?_
  clear hK
  (try simp only [Bk.PU, Act.put])
  go_wp2_with fail
  refine wp_nameY ?_
  intro wq hwq
  have HQ : Hid (MOn wq ⟨b, tt, pre, post, off, gm, gs, fx⟩ (M.setIn (M.reg a :: M.inp)) _ _ _ _ _ _) := Lib.hid (by rw [hwq]; exact (H1.out.next hX).setIn _ (M.reg a :: M.inp) (HS2.out.mono fun k hk => H1.out.fresh hk.1 hk.2))
  have KQ : Blk wq w.heap.size 42 #[.int .u8 (18), .int .i64 (a), .int .i64 (i), .int .i64 (c), .int .i64 (d)] := by rw [hwq]; exact (Below.heap_setCell _ ⟨b, off + 23, none⟩ _ _ (Ne.symm hne0)).trans (HKI.out.next hX)
  have HFQ : Hid (Fr (Pl.O ⟨b, tt, pre, post, off, gm, gs, fx⟩) w wq) := Lib.hid (by rw [hwq]; exact (Fr.of (hbw.next hX)).set (.inl rfl) _)
  have erq : wq.cell? ⟨b, off + 2 + a, none⟩ = some (.int .i64 (M.reg a)) := HQ.out.cr a ha
  have zrq : wq.frozen? ⟨b, off + 2 + a, none⟩ = false := HQ.out.frozen (off + 2 + a)
  obtain ⟨zIq, TIq, FIq⟩ := KQ.open_
  clear hwq KQ er_a zr_a zI TI FI e23 z23 e24 z24 hX hH E2 F2 HS2
  go_region
  go_wp2_with fail
  go_ret
  exact ⟨rfl, (HQ.out.setReg a ha 0).matE rfl, by have HF := HFQ.out; repeat' (first | with_reducible (first | assumption | apply Fr.refl | apply Fr.drew | apply Fr.drewN | apply Fr.alloc | apply Fr.set) | exact .inl rfl | exact .inr (.inl rfl) | exact .inr (.inr rfl) | (apply Fr.of; assumption))⟩
theorem rs_19 (h : MOn w P M vm vs vc vi vo sv) (hB : MBd M) (a : Nat) (ha : a < 16) (i c d : Int) (hf : M.out.length < 4096) :
    SC w P (19) ((a : Nat)) (i) (c) (d) ((0, (M.setOut (M.out ++ [M.reg a])).setR a 0)) := by
  unfold SC
  have HB := Lib.hid hB
  have hf2 : ¬ (4096 : Int) ≤ (M.out.length : Int) := by omega
  have HST : Hid (M.out.length ≤ 17592186044400) := Lib.hid (by omega)
  have hgm0 := h.gm; have hgs0 := h.gs
  obtain ⟨w1, hw1, h1, hbw, KI, hlt, hlt0, hne0, hne⟩ := h.al 42 #[.int .u8 (19), .int .i64 ((a : Nat)), .int .i64 (i), .int .i64 (c), .int .i64 (d)]; have H1 := Lib.hid h1; obtain ⟨er_a, zr_a, i0_a, i1_a⟩ := h1.rg a ha; have HKI := Lib.hid KI; obtain ⟨zI, TI, FI⟩ := KI.open_; obtain ⟨b, tt, pre, post, off, gm, gs, fx⟩ := P; dsimp only at *; clear h h1 KI hB
  have e23 := H1.out.c23; have z23 := H1.out.frozen (off + 23); have e24 := H1.out.c24; have z24 := H1.out.frozen (off + 24)
  dsimp only at e23 z23 e24 z24
  obtain ⟨Ai, ci, rfl, hci, hAi, hRi⟩ := H1.out.l.2.2.1
  obtain ⟨Ao, co, rfl, hco, hAo, hRo⟩ := H1.out.l.2.2.2
  have il := HB.out.il; have ol := HB.out.ol
  have HAi := Lib.hid hAi; have HRi := Lib.hid hRi; have HAo := Lib.hid hAo; have HRo := Lib.hid hRo; have HCi := Lib.hid hci; have HCo := Lib.hid hco
  clear hAi hRi hAo hRo hci hco
  go_enter Tryd.func35, Tryd.ntmps35
  go_upto_region 90 with fail
  rw [← hw1]
  clear hw1
  go_wp2_with fail
  have HSL := Lib.hid (show Sl w1 (Pl.D ⟨b, tt, pre, post, off, gm, gs, fx⟩ w1) 1 (.slice Ao M.out.length co) M.out.length (intCells M.out) from ⟨Ao, co, rfl, HCo.out, HAo.out, HRo.out⟩)
  obtain ⟨i9, li, lz, ls, lb⟩ := info_parts info_intP
  refine wp_region_heldL (S := fun W => Below w1.heap.size w1 W) 18 (by kernel_rfl) ((Below.refl _ _).drew) (fun hH => ?_)
  refine wpAnyL_at ?_
  intro wa hwa
  have hX : Below w1.heap.size w1 wa := by rw [hwa]; exact (Below.refl _ _).drew
  replace hH := hX
  clear hwa
  refine tkL 0 (v := ?_) rfl (by kernel_rfl) (fun _ _ _ h => h) (by rfl) ?hy hH ?_
  case hy => (intro w9_ hS9; clear hS9; go_simp; try with_reducible rfl)
  (try simp only [Bk.PU, Act.put])
  refine tkL 2 (v := ?_) rfl (by kernel_rfl) (fun _ _ _ h => h) (by rfl) ?hy hH ?_
  case hy => (intro w9_ hS9; clear hS9; go_simp; try with_reducible rfl)
  (try simp only [Bk.PU, Act.put])
  refine tkL 3 (v := ?_) rfl (by kernel_rfl) (fun _ _ _ h => h) (by rfl) ?hy hH ?_
  case hy => (intro w9_ hS9; clear hS9; go_simp; try with_reducible rfl)
  (try simp only [Bk.PU, Act.put])
  refine tkL 4 (v := ?_) rfl (by kernel_rfl) (fun _ _ _ h => h) (by rfl) ?hy hH ?_
  case hy => (intro w9_ hS9; clear hS9; go_simp; try with_reducible rfl)
  (try simp only [Bk.PU, Act.put])
  refine tkL 5 (v := ?_) rfl (by kernel_rfl) (fun _ _ _ h => h) (by rfl) ?hy hH ?_
  case hy => (intro w9_ hS9; have t := (hS9.cell (p := ⟨b, off + 24, none⟩) hlt).trans e24; clear hS9; go_simp; try with_reducible rfl)
  (try simp only [Bk.PU, Act.put])
  refine tkL 7 (v := ?_) rfl (by kernel_rfl) (fun _ _ _ h => h) (by rfl) ?hy hH ?_
  case hy => (intro w9_ hS9; clear hS9; go_simp; try with_reducible rfl)
  (try simp only [Bk.PU, Act.put])
  refine tkL 8 (v := ?_) rfl (by kernel_rfl) (fun _ _ _ h => h) (by rfl) ?hy hH ?_
  case hy => (intro w9_ hS9; clear hS9; go_simp; try with_reducible rfl)
  (try simp only [Bk.PU, Act.put])
  refine tkL 9 (v := ?_) rfl (by kernel_rfl) (fun _ _ _ h => h) (by rfl) ?hy hH ?_
  case hy => (intro w9_ hS9; have t := (HKI.out.next hS9).cell; clear hS9; go_simp; try with_reducible rfl)
  (try simp only [Bk.PU, Act.put])
  refine tkL 10 (v := ?_) rfl (by kernel_rfl) (fun _ _ _ h => h) (by rfl) ?hy hH ?_
  case hy => (intro w9_ hS9; clear hS9; go_simp; try with_reducible rfl)
  (try simp only [Bk.PU, Act.put])
  refine tkL 11 (v := ?_) rfl (by kernel_rfl) (fun _ _ _ h => h) (by rfl) ?hy hH ?_
  case hy => (intro w9_ hS9; clear hS9; go_simp; try with_reducible rfl)
  (try simp only [Bk.PU, Act.put])
  refine tkL 12 (v := ?_) rfl (by kernel_rfl) (fun _ _ _ h => h) (by rfl) ?hy hH ?_
  case hy => (intro w9_ hS9; clear hS9; go_simp; try with_reducible rfl)
  (try simp only [Bk.PU, Act.put])
  refine tkL 13 (v := ?_) rfl (by kernel_rfl) (fun _ _ _ h => h) (by rfl) ?hy hH ?_
  case hy => (intro w9_ hS9; have t := (hS9.cell (p := ⟨b, off + 2 + a, none⟩) hlt).trans er_a; clear hS9; go_simp; try with_reducible rfl)
  (try simp only [Bk.PU, Act.put])
  refine wpAnyL_ready (rs := [1, 14]) (by kernel_rfl) (by simp) ?_
  refine AllReadyL.cons rfl (fun K hK => ?_) (AllReadyL.cons rfl (fun K hK => ?_) (AllReadyL.nil))
  · go_simp
    replace hH : Below w1.heap.size w1 _ := hX.alloc (by have := hX.size; omega) (.cells #[] 3)
    refine hK.out _ _ hH (fun _ => ?_)
    clear hK
    (try simp only [Bk.PU, Act.put])
    refine wpAnyL_at ?_
    intro wb hwn
    have hbn : Below wa.heap.size wa wb := by rw [hwn]; exact (Below.refl _ _).alloc (Nat.le_refl _) _
    have K_1 : Blk wb wa.heap.size 3 #[] := by rw [hwn]; exact Blk.new _ _ _
    have zn_1 : wb.heap.size = wa.heap.size + 1 := by rw [hwn]; simp
    have hz_1 : w1.heap.size ≤ wa.heap.size := hX.size
    replace hX := hX.next hbn
    replace hH := hX
    clear hwn hbn
    refine wpAnyL_ready (rs := [6, 14]) (by kernel_rfl) (by simp) ?_
    refine AllReadyL.cons rfl (fun K hK => ?_) (AllReadyL.cons rfl (fun K hK => ?_) (AllReadyL.nil))
    · rw [if_pos (by rfl)]
      refine wp_appS (.tmp 623) (.tmp 627) 26 rfl w1.heap.size 3 i9 _ 1 8 Tryd.underlying26 li lz ls lb rfl (by decide) (.slice (some ⟨wa.heap.size, 0, none⟩) 0 0) 0 [] (by simp [Act.eval]) (own_blk0 K_1 hz_1) (by simp [Act.eval]) (HSL.out.upD (fun k hk => hk.1) hX) (oneInt _) (by unfold maxLen; have := HST.out; omega) (by have := HST.out; omega) hX.size ?_
      intro v1 wc hown1 hgr1 hat1
      replace hX := hX.grown hgr1 hX.size (fun k hk => by simp [Value.ownBlock] at hk; omega)
      replace hH := hX
      obtain ⟨A1, c1, rfl⟩ := own_form hown1
      have HO1 := Lib.hid hown1
      clear hown1 hgr1 hat1 K_1
      refine hK.out _ _ hH (fun _ => ?_)
      clear hK
      (try simp only [Bk.PU, Act.put])
      refine wpAnyL_next (i := 14) rfl (by kernel_rfl) (fun K hK => ?_)
      go_simp
      replace hH : Below w1.heap.size w1 _ := hX.alloc (by have := hX.size; omega) (.cells #[.int .i64 (M.reg a)] 3)
      refine hK.out _ _ hH (fun _ => ?_)
      clear hK
      (try simp only [Bk.PU, Act.put])
      refine wpAnyL_at ?_
      intro wd hwn
      have hbn : Below wc.heap.size wc wd := by rw [hwn]; exact (Below.refl _ _).alloc (Nat.le_refl _) _
      have K_14 : Blk wd wc.heap.size 3 #[.int .i64 (M.reg a)] := by rw [hwn]; exact Blk.new _ _ _
      have zn_14 : wd.heap.size = wc.heap.size + 1 := by rw [hwn]; simp
      have hz_14 : w1.heap.size ≤ wc.heap.size := hX.size
      replace HO1 := Lib.hid (own_below HO1.out hbn (Nat.le_refl _))
      replace hX := hX.next hbn
      replace hH := hX
      clear hwn hbn
      refine wpAnyL_next (i := 15) rfl (by kernel_rfl) (fun K hK => ?_)
      rw [if_pos (by rfl)]
      refine wp_appS (.tmp 628) (.tmp 636) 26 rfl w1.heap.size 3 i9 _ 1 8 Tryd.underlying26 li lz ls lb rfl (by decide) (.slice A1 (0 + M.out.length) c1) (0 + M.out.length) ([] ++ intCells M.out) (by simp [Act.eval]) HO1.out (by simp [Act.eval]) (sl_blk1 K_14) (by intro u hu; simp at hu; subst hu; rfl) (by unfold maxLen; have := HST.out; omega) (by have := HST.out; omega) hX.size ?_
      intro v2 we hown2 hgr2 hat2
      simp only [Nat.zero_add] at hown2
      replace hX := hX.grown hgr2 hX.size (fun k hk => own_block_ge HO1.out hk)
      replace hH := hX
      have HS2 := Lib.hid (show Sl we (fun k => w1.heap.size ≤ k ∧ k < we.heap.size) 1 v2 (M.out ++ [M.reg a]).length (intCells (M.out ++ [M.reg a])) from by have h2 := Sl.of_own hown2; rw [intCells_append, List.length_append]; simpa [intCells] using h2)
      obtain ⟨A2, c2, rfl⟩ := own_form hown2
      have E2 : we.cell? ⟨b, off + 24, none⟩ = some (.slice Ao M.out.length co) := (hX.cell (p := ⟨b, off + 24, none⟩) hlt).trans e24
      have F2 : we.frozen? ⟨b, off + 24, none⟩ = false := ((bcell hX).2 b (off + 24) hlt).trans z24
      clear hown2 hgr2 hat2 K_14 HO1
      refine hK.out _ _ hH (fun _ => ?_)
      clear hK
      (try simp only [Bk.PU, Act.put])
      refine wpAnyL_next (i := 16) rfl (by kernel_rfl) (fun K hK => ?_)
      go_simp
      refine hK.out _ _ hH (fun _ => ?_)
      clear hK
      (try simp only [Bk.PU, Act.put])
      refine tkL 17 (v := ?_) rfl (by kernel_rfl) (fun _ _ _ h => h) (by rfl) ?hy hH ?_
      case hy => (intro w9_ hS9; clear hS9; go_simp; try with_reducible rfl)
      (try simp only [Bk.PU, Act.put])
      refine wpAnyL_last (l := 18) rfl (by kernel_rfl) (by kernel_rfl) (fun K hK => ?_)
      go_simp
      refine hK.out _ _ ?_
      clear hK
      (try simp only [Bk.PU, Act.put])
      go_wp2_with fail
      refine wp_nameY ?_
      intro wq hwq
      have HQ : Hid (MOn wq ⟨b, tt, pre, post, off, gm, gs, fx⟩ (M.setOut (M.out ++ [M.reg a])) _ _ _ _ _ _) := Lib.hid (by rw [hwq]; exact (H1.out.next hX).setOut _ (M.out ++ [M.reg a]) (HS2.out.mono fun k hk => H1.out.fresh hk.1 hk.2))
      have KQ : Blk wq w.heap.size 42 #[.int .u8 (19), .int .i64 (a), .int .i64 (i), .int .i64 (c), .int .i64 (d)] := by rw [hwq]; exact (Below.heap_setCell _ ⟨b, off + 24, none⟩ _ _ (Ne.symm hne0)).trans (HKI.out.next hX)
      have HFQ : Hid (Fr (Pl.O ⟨b, tt, pre, post, off, gm, gs, fx⟩) w wq) := Lib.hid (by rw [hwq]; exact (Fr.of (hbw.next hX)).set (.inl rfl) _)
      have erq : wq.cell? ⟨b, off + 2 + a, none⟩ = some (.int .i64 (M.reg a)) := HQ.out.cr a ha
      have zrq : wq.frozen? ⟨b, off + 2 + a, none⟩ = false := HQ.out.frozen (off + 2 + a)
      obtain ⟨zIq, TIq, FIq⟩ := KQ.open_
      clear hwq KQ er_a zr_a zI TI FI e23 z23 e24 z24 hX hH E2 F2 HS2
      go_region
      go_wp2_with fail
      go_ret
      exact ⟨rfl, (HQ.out.setReg a ha 0).matE rfl, by have HF := HFQ.out; repeat' (first | with_reducible (first | assumption | apply Fr.refl | apply Fr.drew | apply Fr.drewN | apply Fr.alloc | apply Fr.set) | exact .inl rfl | exact .inr (.inl rfl) | exact .inr (.inr rfl) | (apply Fr.of; assumption))⟩
    · go_simp
      replace hH : Below w1.heap.size w1 _ := hX.alloc (by have := hX.size; omega) (.cells #[.int .i64 (M.reg a)] 3)
      refine hK.out _ _ hH (fun _ => ?_)
      clear hK
      (try simp only [Bk.PU, Act.put])
      refine wpAnyL_at ?_
      intro wc hwn
      have hbn : Below wb.heap.size wb wc := by rw [hwn]; exact (Below.refl _ _).alloc (Nat.le_refl _) _
      have K_14 : Blk wc wb.heap.size 3 #[.int .i64 (M.reg a)] := by rw [hwn]; exact Blk.new _ _ _
      have zn_14 : wc.heap.size = wb.heap.size + 1 := by rw [hwn]; simp
      have hz_14 : w1.heap.size ≤ wb.heap.size := hX.size
      replace K_1 := K_1.next hbn
      replace hX := hX.next hbn
      replace hH := hX
      clear hwn hbn
      refine wpAnyL_next (i := 6) rfl (by kernel_rfl) (fun K hK => ?_)
      rw [if_pos (by rfl)]
      refine wp_appS (.tmp 623) (.tmp 627) 26 rfl w1.heap.size 3 i9 _ 1 8 Tryd.underlying26 li lz ls lb rfl (by decide) (.slice (some ⟨wa.heap.size, 0, none⟩) 0 0) 0 [] (by simp [Act.eval]) (own_blk0 K_1 hz_1) (by simp [Act.eval]) (HSL.out.upD (fun k hk => hk.1) hX) (oneInt _) (by unfold maxLen; have := HST.out; omega) (by have := HST.out; omega) hX.size ?_
      intro v1 wd hown1 hgr1 hat1
      replace K_14 : Blk wd wb.heap.size 3 #[.int .i64 (M.reg a)] := (hgr1.block _ K_14.lt (fun e => by simp [Value.ownBlock] at e; omega)).trans K_14
      replace hX := hX.grown hgr1 hX.size (fun k hk => by simp [Value.ownBlock] at hk; omega)
      replace hH := hX
      obtain ⟨A1, c1, rfl⟩ := own_form hown1
      have HO1 := Lib.hid hown1
      clear hown1 hgr1 hat1 K_1
      refine hK.out _ _ hH (fun _ => ?_)
      clear hK
      (try simp only [Bk.PU, Act.put])
      refine wpAnyL_next (i := 15) rfl (by kernel_rfl) (fun K hK => ?_)
      rw [if_pos (by rfl)]
      refine wp_appS (.tmp 628) (.tmp 636) 26 rfl w1.heap.size 3 i9 _ 1 8 Tryd.underlying26 li lz ls lb rfl (by decide) (.slice A1 (0 + M.out.length) c1) (0 + M.out.length) ([] ++ intCells M.out) (by simp [Act.eval]) HO1.out (by simp [Act.eval]) (sl_blk1 K_14) (by intro u hu; simp at hu; subst hu; rfl) (by unfold maxLen; have := HST.out; omega) (by have := HST.out; omega) hX.size ?_
      intro v2 we hown2 hgr2 hat2
      simp only [Nat.zero_add] at hown2
      replace hX := hX.grown hgr2 hX.size (fun k hk => own_block_ge HO1.out hk)
      replace hH := hX
      have HS2 := Lib.hid (show Sl we (fun k => w1.heap.size ≤ k ∧ k < we.heap.size) 1 v2 (M.out ++ [M.reg a]).length (intCells (M.out ++ [M.reg a])) from by have h2 := Sl.of_own hown2; rw [intCells_append, List.length_append]; simpa [intCells] using h2)
      obtain ⟨A2, c2, rfl⟩ := own_form hown2
      have E2 : we.cell? ⟨b, off + 24, none⟩ = some (.slice Ao M.out.length co) := (hX.cell (p := ⟨b, off + 24, none⟩) hlt).trans e24
      have F2 : we.frozen? ⟨b, off + 24, none⟩ = false := ((bcell hX).2 b (off + 24) hlt).trans z24
      clear hown2 hgr2 hat2 K_14 HO1
      refine hK.out _ _ hH (fun _ => ?_)
      clear hK
      (try simp only [Bk.PU, Act.put])
      refine wpAnyL_next (i := 16) rfl (by kernel_rfl) (fun K hK => ?_)
      go_simp
      refine hK.out _ _ hH (fun _ => ?_)
      clear hK
      (try simp only [Bk.PU, Act.put])
      refine tkL 17 (v := ?_) rfl (by kernel_rfl) (fun _ _ _ h => h) (by rfl) ?hy hH ?_
      case hy => (intro w9_ hS9; clear hS9; go_simp; try with_reducible rfl)
      (try simp only [Bk.PU, Act.put])
      refine wpAnyL_last (l := 18) rfl (by kernel_rfl) (by kernel_rfl) (fun K hK => ?_)
      go_simp
      refine hK.out _ _ ?_
      clear hK
      (try simp only [Bk.PU, Act.put])
      go_wp2_with fail
      refine wp_nameY ?_
      intro wq hwq
      have HQ : Hid (MOn wq ⟨b, tt, pre, post, off, gm, gs, fx⟩ (M.setOut (M.out ++ [M.reg a])) _ _ _ _ _ _) := Lib.hid (by rw [hwq]; exact (H1.out.next hX).setOut _ (M.out ++ [M.reg a]) (HS2.out.mono fun k hk => H1.out.fresh hk.1 hk.2))
      have KQ : Blk wq w.heap.size 42 #[.int .u8 (19), .int .i64 (a), .int .i64 (i), .int .i64 (c), .int .i64 (d)] := by rw [hwq]; exact (Below.heap_setCell _ ⟨b, off + 24, none⟩ _ _ (Ne.symm hne0)).trans (HKI.out.next hX)
      have HFQ : Hid (Fr (Pl.O ⟨b, tt, pre, post, off, gm, gs, fx⟩) w wq) := Lib.hid (by rw [hwq]; exact (Fr.of (hbw.next hX)).set (.inl rfl) _)
      have erq : wq.cell? ⟨b, off + 2 + a, none⟩ = some (.int .i64 (M.reg a)) := HQ.out.cr a ha
      have zrq : wq.frozen? ⟨b, off + 2 + a, none⟩ = false := HQ.out.frozen (off + 2 + a)
      obtain ⟨zIq, TIq, FIq⟩ := KQ.open_
      clear hwq KQ er_a zr_a zI TI FI e23 z23 e24 z24 hX hH E2 F2 HS2
      go_region
      go_wp2_with fail
      go_ret
      exact ⟨rfl, (HQ.out.setReg a ha 0).matE rfl, by have HF := HFQ.out; repeat' (first | with_reducible (first | assumption | apply Fr.refl | apply Fr.drew | apply Fr.drewN | apply Fr.alloc | apply Fr.set) | exact .inl rfl | exact .inr (.inl rfl) | exact .inr (.inr rfl) | (apply Fr.of; assumption))⟩
  · go_simp
    replace hH : Below w1.heap.size w1 _ := hX.alloc (by have := hX.size; omega) (.cells #[.int .i64 (M.reg a)] 3)
    refine hK.out _ _ hH (fun _ => ?_)
    clear hK
    (try simp only [Bk.PU, Act.put])
    refine wpAnyL_at ?_
    intro wb hwn
    have hbn : Below wa.heap.size wa wb := by rw [hwn]; exact (Below.refl _ _).alloc (Nat.le_refl _) _
    have K_14 : Blk wb wa.heap.size 3 #[.int .i64 (M.reg a)] := by rw [hwn]; exact Blk.new _ _ _
    have zn_14 : wb.heap.size = wa.heap.size + 1 := by rw [hwn]; simp
    have hz_14 : w1.heap.size ≤ wa.heap.size := hX.size
    replace hX := hX.next hbn
    replace hH := hX
    clear hwn hbn
    refine wpAnyL_next (i := 1) rfl (by kernel_rfl) (fun K hK => ?_)
    go_simp
    replace hH : Below w1.heap.size w1 _ := hX.alloc (by have := hX.size; omega) (.cells #[] 3)
    refine hK.out _ _ hH (fun _ => ?_)
    clear hK
    (try simp only [Bk.PU, Act.put])
    refine wpAnyL_at ?_
    intro wc hwn
    have hbn : Below wb.heap.size wb wc := by rw [hwn]; exact (Below.refl _ _).alloc (Nat.le_refl _) _
    have K_1 : Blk wc wb.heap.size 3 #[] := by rw [hwn]; exact Blk.new _ _ _
    have zn_1 : wc.heap.size = wb.heap.size + 1 := by rw [hwn]; simp
    have hz_1 : w1.heap.size ≤ wb.heap.size := hX.size
    replace K_14 := K_14.next hbn
    replace hX := hX.next hbn
    replace hH := hX
    clear hwn hbn
    refine wpAnyL_next (i := 6) rfl (by kernel_rfl) (fun K hK => ?_)
    rw [if_pos (by rfl)]
    refine wp_appS (.tmp 623) (.tmp 627) 26 rfl w1.heap.size 3 i9 _ 1 8 Tryd.underlying26 li lz ls lb rfl (by decide) (.slice (some ⟨wb.heap.size, 0, none⟩) 0 0) 0 [] (by simp [Act.eval]) (own_blk0 K_1 hz_1) (by simp [Act.eval]) (HSL.out.upD (fun k hk => hk.1) hX) (oneInt _) (by unfold maxLen; have := HST.out; omega) (by have := HST.out; omega) hX.size ?_
    intro v1 wd hown1 hgr1 hat1
    replace K_14 : Blk wd wa.heap.size 3 #[.int .i64 (M.reg a)] := (hgr1.block _ K_14.lt (fun e => by simp [Value.ownBlock] at e; omega)).trans K_14
    replace hX := hX.grown hgr1 hX.size (fun k hk => by simp [Value.ownBlock] at hk; omega)
    replace hH := hX
    obtain ⟨A1, c1, rfl⟩ := own_form hown1
    have HO1 := Lib.hid hown1
    clear hown1 hgr1 hat1 K_1
    refine hK.out _ _ hH (fun _ => ?_)
    clear hK
    (try simp only [Bk.PU, Act.put])
    refine wpAnyL_next (i := 15) rfl (by kernel_rfl) (fun K hK => ?_)
    rw [if_pos (by rfl)]
    refine wp_appS (.tmp 628) (.tmp 636) 26 rfl w1.heap.size 3 i9 _ 1 8 Tryd.underlying26 li lz ls lb rfl (by decide) (.slice A1 (0 + M.out.length) c1) (0 + M.out.length) ([] ++ intCells M.out) (by simp [Act.eval]) HO1.out (by simp [Act.eval]) (sl_blk1 K_14) (by intro u hu; simp at hu; subst hu; rfl) (by unfold maxLen; have := HST.out; omega) (by have := HST.out; omega) hX.size ?_
    intro v2 we hown2 hgr2 hat2
    simp only [Nat.zero_add] at hown2
    replace hX := hX.grown hgr2 hX.size (fun k hk => own_block_ge HO1.out hk)
    replace hH := hX
    have HS2 := Lib.hid (show Sl we (fun k => w1.heap.size ≤ k ∧ k < we.heap.size) 1 v2 (M.out ++ [M.reg a]).length (intCells (M.out ++ [M.reg a])) from by have h2 := Sl.of_own hown2; rw [intCells_append, List.length_append]; simpa [intCells] using h2)
    obtain ⟨A2, c2, rfl⟩ := own_form hown2
    have E2 : we.cell? ⟨b, off + 24, none⟩ = some (.slice Ao M.out.length co) := (hX.cell (p := ⟨b, off + 24, none⟩) hlt).trans e24
    have F2 : we.frozen? ⟨b, off + 24, none⟩ = false := ((bcell hX).2 b (off + 24) hlt).trans z24
    clear hown2 hgr2 hat2 K_14 HO1
    refine hK.out _ _ hH (fun _ => ?_)
    clear hK
    (try simp only [Bk.PU, Act.put])
    refine wpAnyL_next (i := 16) rfl (by kernel_rfl) (fun K hK => ?_)
    go_simp
    refine hK.out _ _ hH (fun _ => ?_)
    clear hK
    (try simp only [Bk.PU, Act.put])
    refine tkL 17 (v := ?_) rfl (by kernel_rfl) (fun _ _ _ h => h) (by rfl) ?hy hH ?_
    case hy => (intro w9_ hS9; clear hS9; go_simp; try with_reducible rfl)
    (try simp only [Bk.PU, Act.put])
    refine wpAnyL_last (l := 18) rfl (by kernel_rfl) (by kernel_rfl) (fun K hK => ?_)
    go_simp
    refine hK.out _ _ ?_
    clear hK
    (try simp only [Bk.PU, Act.put])
    go_wp2_with fail
    refine wp_nameY ?_
    intro wq hwq
    have HQ : Hid (MOn wq ⟨b, tt, pre, post, off, gm, gs, fx⟩ (M.setOut (M.out ++ [M.reg a])) _ _ _ _ _ _) := Lib.hid (by rw [hwq]; exact (H1.out.next hX).setOut _ (M.out ++ [M.reg a]) (HS2.out.mono fun k hk => H1.out.fresh hk.1 hk.2))
    have KQ : Blk wq w.heap.size 42 #[.int .u8 (19), .int .i64 (a), .int .i64 (i), .int .i64 (c), .int .i64 (d)] := by rw [hwq]; exact (Below.heap_setCell _ ⟨b, off + 24, none⟩ _ _ (Ne.symm hne0)).trans (HKI.out.next hX)
    have HFQ : Hid (Fr (Pl.O ⟨b, tt, pre, post, off, gm, gs, fx⟩) w wq) := Lib.hid (by rw [hwq]; exact (Fr.of (hbw.next hX)).set (.inl rfl) _)
    have erq : wq.cell? ⟨b, off + 2 + a, none⟩ = some (.int .i64 (M.reg a)) := HQ.out.cr a ha
    have zrq : wq.frozen? ⟨b, off + 2 + a, none⟩ = false := HQ.out.frozen (off + 2 + a)
    obtain ⟨zIq, TIq, FIq⟩ := KQ.open_
    clear hwq KQ er_a zr_a zI TI FI e23 z23 e24 z24 hX hH E2 F2 HS2
    go_region
    go_wp2_with fail
    go_ret
    exact ⟨rfl, (HQ.out.setReg a ha 0).matE rfl, by have HF := HFQ.out; repeat' (first | with_reducible (first | assumption | apply Fr.refl | apply Fr.drew | apply Fr.drewN | apply Fr.alloc | apply Fr.set) | exact .inl rfl | exact .inr (.inl rfl) | exact .inr (.inr rfl) | (apply Fr.of; assumption))⟩
end Go.Proofs.YteocbllbljeajaaDoor
