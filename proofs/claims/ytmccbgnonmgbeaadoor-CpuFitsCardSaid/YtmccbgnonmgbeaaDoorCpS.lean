/- Several texts in one: CpuS2 CpuT. -/
import Derived.Test.YtmccbgnonmgbeaaDoorCpR
set_option linter.unusedVariables false
set_option linter.unusedSimpArgs false
/- The walk of cpu.step: instructions that are followed by the next one. -/
set_option linter.unusedVariables false
namespace Go.Proofs.YtmccbgnonmgbeaaDoor
open Go.RowKit Bk

/-- What a step comes to behind the instruction. -/
def after (x : Int × Mach) (M : Mach) : Int × Mach := if x.1 = 0 then (0, { x.2 with pc := x.2.pc + x.2.dir }) else (x.1, M)
theorem after_ok {x : Int × Mach} {M N : Mach} (h : x = (0, N)) : after x M = (0, { N with pc := N.pc + N.dir }) := by subst h; rfl
theorem after_no {x : Int × Mach} {M N : Mach} {e : Int} (h : x = (e, N)) (he : e ≠ 0) : after x M = (e, M) := by subst h; unfold after; rw [if_neg he]

set_option maxRecDepth 100000 in
set_option maxHeartbeats 4000000 in
theorem step_goaF (o : Int) {w : World} {P : Pl} {M : Mach} {vm vs vc vi vo : Value} {sv : List Value} (h : MOn w P M vm vs vc vi vo sv) {A : Option Addr} {n : Nat} (cap : Nat) {code : Prg} (hE : Env w P A n code) (mem st : Int) (k : Nat) (hk : k < code.length) (hd : M.dir = 1) (hpc : M.pc = (k : Int)) (hv : (code.getD k default).valid = true) (hop : (code.getD k default).op = o) (o0 : 0 ≤ o) (o1 : o ≤ 21) (hB : MBd M) :
    Calls Tryd.prog 38 #[.agg #[.slice A n cap, .int .i64 mem, .int .i64 st], .pointer (some ⟨P.b, P.off, none⟩)] w (OnM P (after (exec M (code.getD k default)) M) w) := by
  have HB := Lib.hid hB
  clear hB
  obtain ⟨bc, oc, rfl⟩ := hE.form hk; have HM := Lib.hid h; have HE := Lib.hid hE; have HK := Lib.hid hk; have hkn : k < n := (by rw [hE.hn]; exact hk); have hn6 : n ≤ 65536 := (by rw [hE.hn]; exact hE.hl); have hbc : bc < w.heap.size := (hE.hC.blk (by omega)).1; have HV0 := Lib.hid hv; have HOP0 := Lib.hid hop; obtain ⟨x, hx⟩ : ∃ x, code.getD k default = x := ⟨_, rfl⟩; have HX := Lib.hid hx; rw [hx] at hop hv; have HXV := Lib.hid hv; have HD := Lib.hid hd; have HPC := Lib.hid hpc; obtain ⟨x0, x1, x2, x3, x4⟩ := hE.at_ hk hx; rw [hop] at x0; have e0 := h.c0; have e1 := h.c1; rw [hd] at e1; rw [hpc] at e0; have hblt := h.lt; have i1 : (0 : Int) ≤ (k : Int) := (by omega); have i2 : (k : Int) < (n : Int) := (by omega); have k1 : decide ((k : Int) < 0) = false := (by simp); have k2 : decide (n ≤ k) = false := (by simp; omega); obtain ⟨b, tt, pre, post, off, gm, gs, fx⟩ := P; dsimp only at *; have hbne : b ≠ w.heap.size := (by omega); have HO : Hid (x = ⟨o, x.a, x.b, x.c, x.d⟩) := Lib.hid (by obtain ⟨q0, q1, q2, q3, q4⟩ := x; simp only at hop; rw [hop]); clear h hE hk hd hx hpc hv hop
  rw [HX.out, show x = (⟨o, x.a, x.b, x.c, x.d⟩ : Ins) from by rw [HO.out]]
  have hJv : (⟨o, x.a, x.b, x.c, x.d⟩ : Ins).valid = true := (by have := HXV.out; rw [HO.out] at this; exact this)
  have hJs : straightB (⟨o, x.a, x.b, x.c, x.d⟩ : Ins).op = true := (decide_eq_true (by show 0 ≤ o ∧ o ≤ 21 ∨ o = 28 ∨ o = 29; omega))
  obtain ⟨ee, N, hex⟩ : ∃ ee N, exec M ⟨o, x.a, x.b, x.c, x.d⟩ = (ee, N) := ⟨_, _, rfl⟩
  have hkeep := exec_keeps M ⟨o, x.a, x.b, x.c, x.d⟩
  have herr := exec_err M ⟨o, x.a, x.b, x.c, x.d⟩
  rw [hex] at hkeep herr
  have HEX := Lib.hid hex; have HKP := Lib.hid hkeep; have HER := Lib.hid herr; have HJV := Lib.hid hJv; have HJS := Lib.hid hJs
  clear hkeep herr hJv hJs
  by_cases hee : ee = 0
  · subst hee
    rw [after_ok hex]
    clear hex
    go_enter Tryd.func38, Tryd.ntmps38
    go_wp2_with fail
    refine (c_Valid' o x.a x.b x.c x.d (v := true) (by have := HXV.out; rw [HO.out] at this; exact this) (by omega) _ (HE.out.hT.next (by repeat' (first | (with_reducible assumption) | (with_reducible exact Below.refl _ _) | (with_reducible refine Below.alloc ?_ ?_ _) | (with_reducible refine Bk.drewN_ ?_ _) | (with_reducible refine Below.drew ?_) | (with_reducible refine Below.setCell ?_ ?_ _) | go_size)))).mono ?_; rintro e w2 ⟨rfl, hb2⟩; have hB_w2 : Below w.heap.size w w2 := Below.next (by repeat' (first | (with_reducible assumption) | (with_reducible exact Below.refl _ _) | (with_reducible refine Below.alloc ?_ ?_ _) | (with_reducible refine Bk.drewN_ ?_ _) | (with_reducible refine Below.drew ?_) | (with_reducible refine Below.setCell ?_ ?_ _) | go_size)) hb2; have K_1 : Blk w2 (w.heap.size) 24 #[.slice (some ⟨bc, oc, none⟩) n cap, .int .i64 mem, .int .i64 st] := Blk.next (by repeat' (first | with_reducible exact H_1.out | with_reducible exact K0_1 | (refine Blk.new' ?_ _ _; simp; done) | with_reducible refine Blk.alloc ?_ _ | with_reducible refine Blk.drewN ?_ _ | with_reducible refine Blk.drew ?_)) hb2; have K_2 : Blk w2 (w.heap.size + 1) 46 #[.int .u8 o, .int .i64 x.a, .int .i64 x.b, .int .i64 x.c, .int .i64 x.d] := Blk.next (by repeat' (first | with_reducible exact H_2.out | with_reducible exact K0_2 | (refine Blk.new' ?_ _ _; simp; done) | with_reducible refine Blk.alloc ?_ _ | with_reducible refine Blk.drewN ?_ _ | with_reducible refine Blk.drew ?_)) hb2; (try clear H_1); (try clear T_1); (try clear z_1); (try clear F_1); (try clear H_2); (try clear T_2); (try clear z_2); (try clear F_2); obtain ⟨z_1, T_1, F_1⟩ := K_1.open_; have H_1 := Lib.hid K_1; clear K_1; obtain ⟨z_2, T_2, F_2⟩ := K_2.open_; have H_2 := Lib.hid K_2; clear K_2; clear hb2 x0 x1 x2 x3 x4 e0 e1; have Hm2 := Lib.hid (HM.out.next hB_w2); have He2 := Lib.hid (HE.out.next hB_w2); have e0 := Hm2.out.c0; have e1 := Hm2.out.c1; have z0 := Hm2.out.frozen off; dsimp only at e0 e1 z0; rw [HD.out] at e1; rw [HPC.out] at e0
    go_wp2_with (first | (go_at_call 54; ((with_reducible refine (c_IsJump' o (v := false) (by first | decide | (unfold jumpB; simp; omega)) _).mono ?_); rintro e w' ⟨rfl, rfl⟩)) | (go_at_call 55; ((with_reducible refine (c_IsLanding' o (v := false) (by first | decide | (unfold landB; simp; omega)) _).mono ?_); rintro e w' ⟨rfl, rfl⟩)))
    refine (OnM.of (c_execute (HM.out.next (by repeat' (first | (with_reducible assumption) | (with_reducible exact Below.refl _ _) | (with_reducible refine Below.alloc ?_ ?_ _) | (with_reducible refine Bk.drewN_ ?_ _) | (with_reducible refine Below.drew ?_) | (with_reducible refine Below.setCell ?_ ?_ _) | go_size))) HB.out ⟨o, x.a, x.b, x.c, x.d⟩ HJS.out HJV.out) HEX.out.symm).mono ?_
    rintro e w4 ⟨rfl, hm4, hf4⟩
    have F4 : Fr (Pl.O ⟨b, tt, pre, post, off, gm, gs, fx⟩) w w4 := (Fr.of (by repeat' (first | (with_reducible assumption) | (with_reducible exact Below.refl _ _) | (with_reducible refine Below.alloc ?_ ?_ _) | (with_reducible refine Bk.drewN_ ?_ _) | (with_reducible refine Below.drew ?_) | (with_reducible refine Below.setCell ?_ ?_ _) | go_size))).trans hf4
    obtain ⟨vm4, vs4, vc4, vi4, vo4, sv4, h4⟩ := hm4
    have H4 := Lib.hid h4
    have np : N.pc = (k : Int) := by rw [HKP.out.1]; exact HPC.out
    have nd : N.dir = 1 := by rw [HKP.out.2.1]; exact HD.out
    clear e0 e1 z0
    have e0 := h4.c0; have e1 := h4.c1; have z0 := h4.frozen off
    rw [np] at e0
    rw [nd] at e1
    dsimp only at e0 e1 z0
    clear h4 hf4
    go_wp2_with fail
    go_region
    go_wp2_with fail
    go_ret
    exact OnM.mk rfl rfl (by rw [show N.pc + N.dir = (k : Int) + 1 from by rw [np, nd]]; exact (H4.out.setPc _).matE rfl) (by repeat' (first | (with_reducible exact Fr.refl _ _) | with_reducible assumption | (with_reducible refine Fr.drew ?_) | (with_reducible refine Fr.drewN ?_ _) | (with_reducible refine Fr.alloc ?_ _) | (with_reducible refine Fr.set ?_ ?_ _) | exact Or.inl rfl | exact Or.inr (Or.inl rfl) | exact Or.inr (Or.inr rfl) | (refine Fr.of ?_; assumption)))
  · rw [after_no hex hee]
    have hee' : (ee == 0) = false := by simpa using hee
    have HN : N = M := HER.out hee
    clear hex hee
    go_enter Tryd.func38, Tryd.ntmps38
    go_wp2_with fail
    refine (c_Valid' o x.a x.b x.c x.d (v := true) (by have := HXV.out; rw [HO.out] at this; exact this) (by omega) _ (HE.out.hT.next (by repeat' (first | (with_reducible assumption) | (with_reducible exact Below.refl _ _) | (with_reducible refine Below.alloc ?_ ?_ _) | (with_reducible refine Bk.drewN_ ?_ _) | (with_reducible refine Below.drew ?_) | (with_reducible refine Below.setCell ?_ ?_ _) | go_size)))).mono ?_; rintro e w2 ⟨rfl, hb2⟩; have hB_w2 : Below w.heap.size w w2 := Below.next (by repeat' (first | (with_reducible assumption) | (with_reducible exact Below.refl _ _) | (with_reducible refine Below.alloc ?_ ?_ _) | (with_reducible refine Bk.drewN_ ?_ _) | (with_reducible refine Below.drew ?_) | (with_reducible refine Below.setCell ?_ ?_ _) | go_size)) hb2; have K_1 : Blk w2 (w.heap.size) 24 #[.slice (some ⟨bc, oc, none⟩) n cap, .int .i64 mem, .int .i64 st] := Blk.next (by repeat' (first | with_reducible exact H_1.out | with_reducible exact K0_1 | (refine Blk.new' ?_ _ _; simp; done) | with_reducible refine Blk.alloc ?_ _ | with_reducible refine Blk.drewN ?_ _ | with_reducible refine Blk.drew ?_)) hb2; have K_2 : Blk w2 (w.heap.size + 1) 46 #[.int .u8 o, .int .i64 x.a, .int .i64 x.b, .int .i64 x.c, .int .i64 x.d] := Blk.next (by repeat' (first | with_reducible exact H_2.out | with_reducible exact K0_2 | (refine Blk.new' ?_ _ _; simp; done) | with_reducible refine Blk.alloc ?_ _ | with_reducible refine Blk.drewN ?_ _ | with_reducible refine Blk.drew ?_)) hb2; (try clear H_1); (try clear T_1); (try clear z_1); (try clear F_1); (try clear H_2); (try clear T_2); (try clear z_2); (try clear F_2); obtain ⟨z_1, T_1, F_1⟩ := K_1.open_; have H_1 := Lib.hid K_1; clear K_1; obtain ⟨z_2, T_2, F_2⟩ := K_2.open_; have H_2 := Lib.hid K_2; clear K_2; clear hb2 x0 x1 x2 x3 x4 e0 e1; have Hm2 := Lib.hid (HM.out.next hB_w2); have He2 := Lib.hid (HE.out.next hB_w2); have e0 := Hm2.out.c0; have e1 := Hm2.out.c1; have z0 := Hm2.out.frozen off; dsimp only at e0 e1 z0; rw [HD.out] at e1; rw [HPC.out] at e0
    go_wp2_with (first | (go_at_call 54; ((with_reducible refine (c_IsJump' o (v := false) (by first | decide | (unfold jumpB; simp; omega)) _).mono ?_); rintro e w' ⟨rfl, rfl⟩)) | (go_at_call 55; ((with_reducible refine (c_IsLanding' o (v := false) (by first | decide | (unfold landB; simp; omega)) _).mono ?_); rintro e w' ⟨rfl, rfl⟩)))
    refine (OnM.of (c_execute (HM.out.next (by repeat' (first | (with_reducible assumption) | (with_reducible exact Below.refl _ _) | (with_reducible refine Below.alloc ?_ ?_ _) | (with_reducible refine Bk.drewN_ ?_ _) | (with_reducible refine Below.drew ?_) | (with_reducible refine Below.setCell ?_ ?_ _) | go_size))) HB.out ⟨o, x.a, x.b, x.c, x.d⟩ HJS.out HJV.out) HEX.out.symm).mono ?_
    rintro e w4 ⟨rfl, hm4, hf4⟩
    have F4 : Fr (Pl.O ⟨b, tt, pre, post, off, gm, gs, fx⟩) w w4 := (Fr.of (by repeat' (first | (with_reducible assumption) | (with_reducible exact Below.refl _ _) | (with_reducible refine Below.alloc ?_ ?_ _) | (with_reducible refine Bk.drewN_ ?_ _) | (with_reducible refine Below.drew ?_) | (with_reducible refine Below.setCell ?_ ?_ _) | go_size))).trans hf4
    go_wp2_with fail
    go_ret
    exact ⟨rfl, HN ▸ hm4, F4⟩

set_option maxRecDepth 100000 in
set_option maxHeartbeats 4000000 in
theorem step_gobF {w : World} {P : Pl} {M : Mach} {vm vs vc vi vo : Value} {sv : List Value} (h : MOn w P M vm vs vc vi vo sv) {A : Option Addr} {n : Nat} (cap : Nat) {code : Prg} (hE : Env w P A n code) (mem st : Int) (k : Nat) (hk : k < code.length) (hd : M.dir = 1) (hpc : M.pc = (k : Int)) (hv : (code.getD k default).valid = true) (hop : (code.getD k default).op = 28) (hB : MBd M) :
    Calls Tryd.prog 38 #[.agg #[.slice A n cap, .int .i64 mem, .int .i64 st], .pointer (some ⟨P.b, P.off, none⟩)] w (OnM P (after (exec M (code.getD k default)) M) w) := by
  have HB := Lib.hid hB
  clear hB
  obtain ⟨bc, oc, rfl⟩ := hE.form hk; have HM := Lib.hid h; have HE := Lib.hid hE; have HK := Lib.hid hk; have hkn : k < n := (by rw [hE.hn]; exact hk); have hn6 : n ≤ 65536 := (by rw [hE.hn]; exact hE.hl); have hbc : bc < w.heap.size := (hE.hC.blk (by omega)).1; have HV0 := Lib.hid hv; have HOP0 := Lib.hid hop; obtain ⟨x, hx⟩ : ∃ x, code.getD k default = x := ⟨_, rfl⟩; have HX := Lib.hid hx; rw [hx] at hop hv; have HXV := Lib.hid hv; have HD := Lib.hid hd; have HPC := Lib.hid hpc; obtain ⟨x0, x1, x2, x3, x4⟩ := hE.at_ hk hx; rw [hop] at x0; have e0 := h.c0; have e1 := h.c1; rw [hd] at e1; rw [hpc] at e0; have hblt := h.lt; have i1 : (0 : Int) ≤ (k : Int) := (by omega); have i2 : (k : Int) < (n : Int) := (by omega); have k1 : decide ((k : Int) < 0) = false := (by simp); have k2 : decide (n ≤ k) = false := (by simp; omega); obtain ⟨b, tt, pre, post, off, gm, gs, fx⟩ := P; dsimp only at *; have hbne : b ≠ w.heap.size := (by omega); have HO : Hid (x = ⟨28, x.a, x.b, x.c, x.d⟩) := Lib.hid (by obtain ⟨q0, q1, q2, q3, q4⟩ := x; simp only at hop; rw [hop]); clear h hE hk hd hx hpc hv hop
  rw [HX.out, show x = (⟨28, x.a, x.b, x.c, x.d⟩ : Ins) from by rw [HO.out]]
  have hJv : (⟨28, x.a, x.b, x.c, x.d⟩ : Ins).valid = true := (by have := HXV.out; rw [HO.out] at this; exact this)
  have hJs : straightB (⟨28, x.a, x.b, x.c, x.d⟩ : Ins).op = true := (decide_eq_true (by show 0 ≤ 28 ∧ 28 ≤ 21 ∨ 28 = 28 ∨ 28 = 29; omega))
  obtain ⟨ee, N, hex⟩ : ∃ ee N, exec M ⟨28, x.a, x.b, x.c, x.d⟩ = (ee, N) := ⟨_, _, rfl⟩
  have hkeep := exec_keeps M ⟨28, x.a, x.b, x.c, x.d⟩
  have herr := exec_err M ⟨28, x.a, x.b, x.c, x.d⟩
  rw [hex] at hkeep herr
  have HEX := Lib.hid hex; have HKP := Lib.hid hkeep; have HER := Lib.hid herr; have HJV := Lib.hid hJv; have HJS := Lib.hid hJs
  clear hkeep herr hJv hJs
  by_cases hee : ee = 0
  · subst hee
    rw [after_ok hex]
    clear hex
    go_enter Tryd.func38, Tryd.ntmps38
    go_wp2_with fail
    refine (c_Valid' 28 x.a x.b x.c x.d (v := true) (by have := HXV.out; rw [HO.out] at this; exact this) (by omega) _ (HE.out.hT.next (by repeat' (first | (with_reducible assumption) | (with_reducible exact Below.refl _ _) | (with_reducible refine Below.alloc ?_ ?_ _) | (with_reducible refine Bk.drewN_ ?_ _) | (with_reducible refine Below.drew ?_) | (with_reducible refine Below.setCell ?_ ?_ _) | go_size)))).mono ?_; rintro e w2 ⟨rfl, hb2⟩; have hB_w2 : Below w.heap.size w w2 := Below.next (by repeat' (first | (with_reducible assumption) | (with_reducible exact Below.refl _ _) | (with_reducible refine Below.alloc ?_ ?_ _) | (with_reducible refine Bk.drewN_ ?_ _) | (with_reducible refine Below.drew ?_) | (with_reducible refine Below.setCell ?_ ?_ _) | go_size)) hb2; have K_1 : Blk w2 (w.heap.size) 24 #[.slice (some ⟨bc, oc, none⟩) n cap, .int .i64 mem, .int .i64 st] := Blk.next (by repeat' (first | with_reducible exact H_1.out | with_reducible exact K0_1 | (refine Blk.new' ?_ _ _; simp; done) | with_reducible refine Blk.alloc ?_ _ | with_reducible refine Blk.drewN ?_ _ | with_reducible refine Blk.drew ?_)) hb2; have K_2 : Blk w2 (w.heap.size + 1) 46 #[.int .u8 28, .int .i64 x.a, .int .i64 x.b, .int .i64 x.c, .int .i64 x.d] := Blk.next (by repeat' (first | with_reducible exact H_2.out | with_reducible exact K0_2 | (refine Blk.new' ?_ _ _; simp; done) | with_reducible refine Blk.alloc ?_ _ | with_reducible refine Blk.drewN ?_ _ | with_reducible refine Blk.drew ?_)) hb2; (try clear H_1); (try clear T_1); (try clear z_1); (try clear F_1); (try clear H_2); (try clear T_2); (try clear z_2); (try clear F_2); obtain ⟨z_1, T_1, F_1⟩ := K_1.open_; have H_1 := Lib.hid K_1; clear K_1; obtain ⟨z_2, T_2, F_2⟩ := K_2.open_; have H_2 := Lib.hid K_2; clear K_2; clear hb2 x0 x1 x2 x3 x4 e0 e1; have Hm2 := Lib.hid (HM.out.next hB_w2); have He2 := Lib.hid (HE.out.next hB_w2); have e0 := Hm2.out.c0; have e1 := Hm2.out.c1; have z0 := Hm2.out.frozen off; dsimp only at e0 e1 z0; rw [HD.out] at e1; rw [HPC.out] at e0
    go_wp2_with (first | (go_at_call 54; ((with_reducible refine (c_IsJump' 28 (v := false) (by first | decide | (unfold jumpB; simp; omega)) _).mono ?_); rintro e w' ⟨rfl, rfl⟩)) | (go_at_call 55; ((with_reducible refine (c_IsLanding' 28 (v := false) (by first | decide | (unfold landB; simp; omega)) _).mono ?_); rintro e w' ⟨rfl, rfl⟩)))
    refine (OnM.of (c_execute (HM.out.next (by repeat' (first | (with_reducible assumption) | (with_reducible exact Below.refl _ _) | (with_reducible refine Below.alloc ?_ ?_ _) | (with_reducible refine Bk.drewN_ ?_ _) | (with_reducible refine Below.drew ?_) | (with_reducible refine Below.setCell ?_ ?_ _) | go_size))) HB.out ⟨28, x.a, x.b, x.c, x.d⟩ HJS.out HJV.out) HEX.out.symm).mono ?_
    rintro e w4 ⟨rfl, hm4, hf4⟩
    have F4 : Fr (Pl.O ⟨b, tt, pre, post, off, gm, gs, fx⟩) w w4 := (Fr.of (by repeat' (first | (with_reducible assumption) | (with_reducible exact Below.refl _ _) | (with_reducible refine Below.alloc ?_ ?_ _) | (with_reducible refine Bk.drewN_ ?_ _) | (with_reducible refine Below.drew ?_) | (with_reducible refine Below.setCell ?_ ?_ _) | go_size))).trans hf4
    obtain ⟨vm4, vs4, vc4, vi4, vo4, sv4, h4⟩ := hm4
    have H4 := Lib.hid h4
    have np : N.pc = (k : Int) := by rw [HKP.out.1]; exact HPC.out
    have nd : N.dir = 1 := by rw [HKP.out.2.1]; exact HD.out
    clear e0 e1 z0
    have e0 := h4.c0; have e1 := h4.c1; have z0 := h4.frozen off
    rw [np] at e0
    rw [nd] at e1
    dsimp only at e0 e1 z0
    clear h4 hf4
    go_wp2_with fail
    go_region
    go_wp2_with fail
    go_ret
    exact OnM.mk rfl rfl (by rw [show N.pc + N.dir = (k : Int) + 1 from by rw [np, nd]]; exact (H4.out.setPc _).matE rfl) (by repeat' (first | (with_reducible exact Fr.refl _ _) | with_reducible assumption | (with_reducible refine Fr.drew ?_) | (with_reducible refine Fr.drewN ?_ _) | (with_reducible refine Fr.alloc ?_ _) | (with_reducible refine Fr.set ?_ ?_ _) | exact Or.inl rfl | exact Or.inr (Or.inl rfl) | exact Or.inr (Or.inr rfl) | (refine Fr.of ?_; assumption)))
  · rw [after_no hex hee]
    have hee' : (ee == 0) = false := by simpa using hee
    have HN : N = M := HER.out hee
    clear hex hee
    go_enter Tryd.func38, Tryd.ntmps38
    go_wp2_with fail
    refine (c_Valid' 28 x.a x.b x.c x.d (v := true) (by have := HXV.out; rw [HO.out] at this; exact this) (by omega) _ (HE.out.hT.next (by repeat' (first | (with_reducible assumption) | (with_reducible exact Below.refl _ _) | (with_reducible refine Below.alloc ?_ ?_ _) | (with_reducible refine Bk.drewN_ ?_ _) | (with_reducible refine Below.drew ?_) | (with_reducible refine Below.setCell ?_ ?_ _) | go_size)))).mono ?_; rintro e w2 ⟨rfl, hb2⟩; have hB_w2 : Below w.heap.size w w2 := Below.next (by repeat' (first | (with_reducible assumption) | (with_reducible exact Below.refl _ _) | (with_reducible refine Below.alloc ?_ ?_ _) | (with_reducible refine Bk.drewN_ ?_ _) | (with_reducible refine Below.drew ?_) | (with_reducible refine Below.setCell ?_ ?_ _) | go_size)) hb2; have K_1 : Blk w2 (w.heap.size) 24 #[.slice (some ⟨bc, oc, none⟩) n cap, .int .i64 mem, .int .i64 st] := Blk.next (by repeat' (first | with_reducible exact H_1.out | with_reducible exact K0_1 | (refine Blk.new' ?_ _ _; simp; done) | with_reducible refine Blk.alloc ?_ _ | with_reducible refine Blk.drewN ?_ _ | with_reducible refine Blk.drew ?_)) hb2; have K_2 : Blk w2 (w.heap.size + 1) 46 #[.int .u8 28, .int .i64 x.a, .int .i64 x.b, .int .i64 x.c, .int .i64 x.d] := Blk.next (by repeat' (first | with_reducible exact H_2.out | with_reducible exact K0_2 | (refine Blk.new' ?_ _ _; simp; done) | with_reducible refine Blk.alloc ?_ _ | with_reducible refine Blk.drewN ?_ _ | with_reducible refine Blk.drew ?_)) hb2; (try clear H_1); (try clear T_1); (try clear z_1); (try clear F_1); (try clear H_2); (try clear T_2); (try clear z_2); (try clear F_2); obtain ⟨z_1, T_1, F_1⟩ := K_1.open_; have H_1 := Lib.hid K_1; clear K_1; obtain ⟨z_2, T_2, F_2⟩ := K_2.open_; have H_2 := Lib.hid K_2; clear K_2; clear hb2 x0 x1 x2 x3 x4 e0 e1; have Hm2 := Lib.hid (HM.out.next hB_w2); have He2 := Lib.hid (HE.out.next hB_w2); have e0 := Hm2.out.c0; have e1 := Hm2.out.c1; have z0 := Hm2.out.frozen off; dsimp only at e0 e1 z0; rw [HD.out] at e1; rw [HPC.out] at e0
    go_wp2_with (first | (go_at_call 54; ((with_reducible refine (c_IsJump' 28 (v := false) (by first | decide | (unfold jumpB; simp; omega)) _).mono ?_); rintro e w' ⟨rfl, rfl⟩)) | (go_at_call 55; ((with_reducible refine (c_IsLanding' 28 (v := false) (by first | decide | (unfold landB; simp; omega)) _).mono ?_); rintro e w' ⟨rfl, rfl⟩)))
    refine (OnM.of (c_execute (HM.out.next (by repeat' (first | (with_reducible assumption) | (with_reducible exact Below.refl _ _) | (with_reducible refine Below.alloc ?_ ?_ _) | (with_reducible refine Bk.drewN_ ?_ _) | (with_reducible refine Below.drew ?_) | (with_reducible refine Below.setCell ?_ ?_ _) | go_size))) HB.out ⟨28, x.a, x.b, x.c, x.d⟩ HJS.out HJV.out) HEX.out.symm).mono ?_
    rintro e w4 ⟨rfl, hm4, hf4⟩
    have F4 : Fr (Pl.O ⟨b, tt, pre, post, off, gm, gs, fx⟩) w w4 := (Fr.of (by repeat' (first | (with_reducible assumption) | (with_reducible exact Below.refl _ _) | (with_reducible refine Below.alloc ?_ ?_ _) | (with_reducible refine Bk.drewN_ ?_ _) | (with_reducible refine Below.drew ?_) | (with_reducible refine Below.setCell ?_ ?_ _) | go_size))).trans hf4
    go_wp2_with fail
    go_ret
    exact ⟨rfl, HN ▸ hm4, F4⟩

set_option maxRecDepth 100000 in
set_option maxHeartbeats 4000000 in
theorem step_gocF {w : World} {P : Pl} {M : Mach} {vm vs vc vi vo : Value} {sv : List Value} (h : MOn w P M vm vs vc vi vo sv) {A : Option Addr} {n : Nat} (cap : Nat) {code : Prg} (hE : Env w P A n code) (mem st : Int) (k : Nat) (hk : k < code.length) (hd : M.dir = 1) (hpc : M.pc = (k : Int)) (hv : (code.getD k default).valid = true) (hop : (code.getD k default).op = 29) (hB : MBd M) :
    Calls Tryd.prog 38 #[.agg #[.slice A n cap, .int .i64 mem, .int .i64 st], .pointer (some ⟨P.b, P.off, none⟩)] w (OnM P (after (exec M (code.getD k default)) M) w) := by
  have HB := Lib.hid hB
  clear hB
  obtain ⟨bc, oc, rfl⟩ := hE.form hk; have HM := Lib.hid h; have HE := Lib.hid hE; have HK := Lib.hid hk; have hkn : k < n := (by rw [hE.hn]; exact hk); have hn6 : n ≤ 65536 := (by rw [hE.hn]; exact hE.hl); have hbc : bc < w.heap.size := (hE.hC.blk (by omega)).1; have HV0 := Lib.hid hv; have HOP0 := Lib.hid hop; obtain ⟨x, hx⟩ : ∃ x, code.getD k default = x := ⟨_, rfl⟩; have HX := Lib.hid hx; rw [hx] at hop hv; have HXV := Lib.hid hv; have HD := Lib.hid hd; have HPC := Lib.hid hpc; obtain ⟨x0, x1, x2, x3, x4⟩ := hE.at_ hk hx; rw [hop] at x0; have e0 := h.c0; have e1 := h.c1; rw [hd] at e1; rw [hpc] at e0; have hblt := h.lt; have i1 : (0 : Int) ≤ (k : Int) := (by omega); have i2 : (k : Int) < (n : Int) := (by omega); have k1 : decide ((k : Int) < 0) = false := (by simp); have k2 : decide (n ≤ k) = false := (by simp; omega); obtain ⟨b, tt, pre, post, off, gm, gs, fx⟩ := P; dsimp only at *; have hbne : b ≠ w.heap.size := (by omega); have HO : Hid (x = ⟨29, x.a, x.b, x.c, x.d⟩) := Lib.hid (by obtain ⟨q0, q1, q2, q3, q4⟩ := x; simp only at hop; rw [hop]); clear h hE hk hd hx hpc hv hop
  rw [HX.out, show x = (⟨29, x.a, x.b, x.c, x.d⟩ : Ins) from by rw [HO.out]]
  have hJv : (⟨29, x.a, x.b, x.c, x.d⟩ : Ins).valid = true := (by have := HXV.out; rw [HO.out] at this; exact this)
  have hJs : straightB (⟨29, x.a, x.b, x.c, x.d⟩ : Ins).op = true := (decide_eq_true (by show 0 ≤ 29 ∧ 29 ≤ 21 ∨ 29 = 28 ∨ 29 = 29; omega))
  obtain ⟨ee, N, hex⟩ : ∃ ee N, exec M ⟨29, x.a, x.b, x.c, x.d⟩ = (ee, N) := ⟨_, _, rfl⟩
  have hkeep := exec_keeps M ⟨29, x.a, x.b, x.c, x.d⟩
  have herr := exec_err M ⟨29, x.a, x.b, x.c, x.d⟩
  rw [hex] at hkeep herr
  have HEX := Lib.hid hex; have HKP := Lib.hid hkeep; have HER := Lib.hid herr; have HJV := Lib.hid hJv; have HJS := Lib.hid hJs
  clear hkeep herr hJv hJs
  by_cases hee : ee = 0
  · subst hee
    rw [after_ok hex]
    clear hex
    go_enter Tryd.func38, Tryd.ntmps38
    go_wp2_with fail
    refine (c_Valid' 29 x.a x.b x.c x.d (v := true) (by have := HXV.out; rw [HO.out] at this; exact this) (by omega) _ (HE.out.hT.next (by repeat' (first | (with_reducible assumption) | (with_reducible exact Below.refl _ _) | (with_reducible refine Below.alloc ?_ ?_ _) | (with_reducible refine Bk.drewN_ ?_ _) | (with_reducible refine Below.drew ?_) | (with_reducible refine Below.setCell ?_ ?_ _) | go_size)))).mono ?_; rintro e w2 ⟨rfl, hb2⟩; have hB_w2 : Below w.heap.size w w2 := Below.next (by repeat' (first | (with_reducible assumption) | (with_reducible exact Below.refl _ _) | (with_reducible refine Below.alloc ?_ ?_ _) | (with_reducible refine Bk.drewN_ ?_ _) | (with_reducible refine Below.drew ?_) | (with_reducible refine Below.setCell ?_ ?_ _) | go_size)) hb2; have K_1 : Blk w2 (w.heap.size) 24 #[.slice (some ⟨bc, oc, none⟩) n cap, .int .i64 mem, .int .i64 st] := Blk.next (by repeat' (first | with_reducible exact H_1.out | with_reducible exact K0_1 | (refine Blk.new' ?_ _ _; simp; done) | with_reducible refine Blk.alloc ?_ _ | with_reducible refine Blk.drewN ?_ _ | with_reducible refine Blk.drew ?_)) hb2; have K_2 : Blk w2 (w.heap.size + 1) 46 #[.int .u8 29, .int .i64 x.a, .int .i64 x.b, .int .i64 x.c, .int .i64 x.d] := Blk.next (by repeat' (first | with_reducible exact H_2.out | with_reducible exact K0_2 | (refine Blk.new' ?_ _ _; simp; done) | with_reducible refine Blk.alloc ?_ _ | with_reducible refine Blk.drewN ?_ _ | with_reducible refine Blk.drew ?_)) hb2; (try clear H_1); (try clear T_1); (try clear z_1); (try clear F_1); (try clear H_2); (try clear T_2); (try clear z_2); (try clear F_2); obtain ⟨z_1, T_1, F_1⟩ := K_1.open_; have H_1 := Lib.hid K_1; clear K_1; obtain ⟨z_2, T_2, F_2⟩ := K_2.open_; have H_2 := Lib.hid K_2; clear K_2; clear hb2 x0 x1 x2 x3 x4 e0 e1; have Hm2 := Lib.hid (HM.out.next hB_w2); have He2 := Lib.hid (HE.out.next hB_w2); have e0 := Hm2.out.c0; have e1 := Hm2.out.c1; have z0 := Hm2.out.frozen off; dsimp only at e0 e1 z0; rw [HD.out] at e1; rw [HPC.out] at e0
    go_wp2_with (first | (go_at_call 54; ((with_reducible refine (c_IsJump' 29 (v := false) (by first | decide | (unfold jumpB; simp; omega)) _).mono ?_); rintro e w' ⟨rfl, rfl⟩)) | (go_at_call 55; ((with_reducible refine (c_IsLanding' 29 (v := false) (by first | decide | (unfold landB; simp; omega)) _).mono ?_); rintro e w' ⟨rfl, rfl⟩)))
    refine (OnM.of (c_execute (HM.out.next (by repeat' (first | (with_reducible assumption) | (with_reducible exact Below.refl _ _) | (with_reducible refine Below.alloc ?_ ?_ _) | (with_reducible refine Bk.drewN_ ?_ _) | (with_reducible refine Below.drew ?_) | (with_reducible refine Below.setCell ?_ ?_ _) | go_size))) HB.out ⟨29, x.a, x.b, x.c, x.d⟩ HJS.out HJV.out) HEX.out.symm).mono ?_
    rintro e w4 ⟨rfl, hm4, hf4⟩
    have F4 : Fr (Pl.O ⟨b, tt, pre, post, off, gm, gs, fx⟩) w w4 := (Fr.of (by repeat' (first | (with_reducible assumption) | (with_reducible exact Below.refl _ _) | (with_reducible refine Below.alloc ?_ ?_ _) | (with_reducible refine Bk.drewN_ ?_ _) | (with_reducible refine Below.drew ?_) | (with_reducible refine Below.setCell ?_ ?_ _) | go_size))).trans hf4
    obtain ⟨vm4, vs4, vc4, vi4, vo4, sv4, h4⟩ := hm4
    have H4 := Lib.hid h4
    have np : N.pc = (k : Int) := by rw [HKP.out.1]; exact HPC.out
    have nd : N.dir = 1 := by rw [HKP.out.2.1]; exact HD.out
    clear e0 e1 z0
    have e0 := h4.c0; have e1 := h4.c1; have z0 := h4.frozen off
    rw [np] at e0
    rw [nd] at e1
    dsimp only at e0 e1 z0
    clear h4 hf4
    go_wp2_with fail
    go_region
    go_wp2_with fail
    go_ret
    exact OnM.mk rfl rfl (by rw [show N.pc + N.dir = (k : Int) + 1 from by rw [np, nd]]; exact (H4.out.setPc _).matE rfl) (by repeat' (first | (with_reducible exact Fr.refl _ _) | with_reducible assumption | (with_reducible refine Fr.drew ?_) | (with_reducible refine Fr.drewN ?_ _) | (with_reducible refine Fr.alloc ?_ _) | (with_reducible refine Fr.set ?_ ?_ _) | exact Or.inl rfl | exact Or.inr (Or.inl rfl) | exact Or.inr (Or.inr rfl) | (refine Fr.of ?_; assumption)))
  · rw [after_no hex hee]
    have hee' : (ee == 0) = false := by simpa using hee
    have HN : N = M := HER.out hee
    clear hex hee
    go_enter Tryd.func38, Tryd.ntmps38
    go_wp2_with fail
    refine (c_Valid' 29 x.a x.b x.c x.d (v := true) (by have := HXV.out; rw [HO.out] at this; exact this) (by omega) _ (HE.out.hT.next (by repeat' (first | (with_reducible assumption) | (with_reducible exact Below.refl _ _) | (with_reducible refine Below.alloc ?_ ?_ _) | (with_reducible refine Bk.drewN_ ?_ _) | (with_reducible refine Below.drew ?_) | (with_reducible refine Below.setCell ?_ ?_ _) | go_size)))).mono ?_; rintro e w2 ⟨rfl, hb2⟩; have hB_w2 : Below w.heap.size w w2 := Below.next (by repeat' (first | (with_reducible assumption) | (with_reducible exact Below.refl _ _) | (with_reducible refine Below.alloc ?_ ?_ _) | (with_reducible refine Bk.drewN_ ?_ _) | (with_reducible refine Below.drew ?_) | (with_reducible refine Below.setCell ?_ ?_ _) | go_size)) hb2; have K_1 : Blk w2 (w.heap.size) 24 #[.slice (some ⟨bc, oc, none⟩) n cap, .int .i64 mem, .int .i64 st] := Blk.next (by repeat' (first | with_reducible exact H_1.out | with_reducible exact K0_1 | (refine Blk.new' ?_ _ _; simp; done) | with_reducible refine Blk.alloc ?_ _ | with_reducible refine Blk.drewN ?_ _ | with_reducible refine Blk.drew ?_)) hb2; have K_2 : Blk w2 (w.heap.size + 1) 46 #[.int .u8 29, .int .i64 x.a, .int .i64 x.b, .int .i64 x.c, .int .i64 x.d] := Blk.next (by repeat' (first | with_reducible exact H_2.out | with_reducible exact K0_2 | (refine Blk.new' ?_ _ _; simp; done) | with_reducible refine Blk.alloc ?_ _ | with_reducible refine Blk.drewN ?_ _ | with_reducible refine Blk.drew ?_)) hb2; (try clear H_1); (try clear T_1); (try clear z_1); (try clear F_1); (try clear H_2); (try clear T_2); (try clear z_2); (try clear F_2); obtain ⟨z_1, T_1, F_1⟩ := K_1.open_; have H_1 := Lib.hid K_1; clear K_1; obtain ⟨z_2, T_2, F_2⟩ := K_2.open_; have H_2 := Lib.hid K_2; clear K_2; clear hb2 x0 x1 x2 x3 x4 e0 e1; have Hm2 := Lib.hid (HM.out.next hB_w2); have He2 := Lib.hid (HE.out.next hB_w2); have e0 := Hm2.out.c0; have e1 := Hm2.out.c1; have z0 := Hm2.out.frozen off; dsimp only at e0 e1 z0; rw [HD.out] at e1; rw [HPC.out] at e0
    go_wp2_with (first | (go_at_call 54; ((with_reducible refine (c_IsJump' 29 (v := false) (by first | decide | (unfold jumpB; simp; omega)) _).mono ?_); rintro e w' ⟨rfl, rfl⟩)) | (go_at_call 55; ((with_reducible refine (c_IsLanding' 29 (v := false) (by first | decide | (unfold landB; simp; omega)) _).mono ?_); rintro e w' ⟨rfl, rfl⟩)))
    refine (OnM.of (c_execute (HM.out.next (by repeat' (first | (with_reducible assumption) | (with_reducible exact Below.refl _ _) | (with_reducible refine Below.alloc ?_ ?_ _) | (with_reducible refine Bk.drewN_ ?_ _) | (with_reducible refine Below.drew ?_) | (with_reducible refine Below.setCell ?_ ?_ _) | go_size))) HB.out ⟨29, x.a, x.b, x.c, x.d⟩ HJS.out HJV.out) HEX.out.symm).mono ?_
    rintro e w4 ⟨rfl, hm4, hf4⟩
    have F4 : Fr (Pl.O ⟨b, tt, pre, post, off, gm, gs, fx⟩) w w4 := (Fr.of (by repeat' (first | (with_reducible assumption) | (with_reducible exact Below.refl _ _) | (with_reducible refine Below.alloc ?_ ?_ _) | (with_reducible refine Bk.drewN_ ?_ _) | (with_reducible refine Below.drew ?_) | (with_reducible refine Below.setCell ?_ ?_ _) | go_size))).trans hf4
    go_wp2_with fail
    go_ret
    exact ⟨rfl, HN ▸ hm4, F4⟩

set_option maxRecDepth 100000 in
set_option maxHeartbeats 4000000 in
theorem step_goaB (o : Int) {w : World} {P : Pl} {M : Mach} {vm vs vc vi vo : Value} {sv : List Value} (h : MOn w P M vm vs vc vi vo sv) {A : Option Addr} {n : Nat} (cap : Nat) {code : Prg} (hE : Env w P A n code) (mem st : Int) (k : Nat) (hk : k < code.length) (hd : M.dir = -1) (hpc : M.pc = (k : Int) + 1) (hv : (code.getD k default).valid = true) (hop : (code.getD k default).op = o) (o0 : 0 ≤ o) (o1 : o ≤ 21) (hB : MBd M) :
    Calls Tryd.prog 38 #[.agg #[.slice A n cap, .int .i64 mem, .int .i64 st], .pointer (some ⟨P.b, P.off, none⟩)] w (OnM P (after (exec M (code.getD k default).inverse) M) w) := by
  have HB := Lib.hid hB
  clear hB
  obtain ⟨bc, oc, rfl⟩ := hE.form hk; have HM := Lib.hid h; have HE := Lib.hid hE; have HK := Lib.hid hk; have hkn : k < n := (by rw [hE.hn]; exact hk); have hn6 : n ≤ 65536 := (by rw [hE.hn]; exact hE.hl); have hbc : bc < w.heap.size := (hE.hC.blk (by omega)).1; have HV0 := Lib.hid hv; have HOP0 := Lib.hid hop; obtain ⟨x, hx⟩ : ∃ x, code.getD k default = x := ⟨_, rfl⟩; have HX := Lib.hid hx; rw [hx] at hop hv; have HXV := Lib.hid hv; have HD := Lib.hid hd; have HPC := Lib.hid hpc; obtain ⟨x0, x1, x2, x3, x4⟩ := hE.at_ hk hx; rw [hop] at x0; have e0 := h.c0; have e1 := h.c1; rw [hd] at e1; rw [hpc] at e0; have hblt := h.lt; have i1 : (0 : Int) ≤ (k : Int) := (by omega); have i2 : (k : Int) < (n : Int) := (by omega); have k1 : decide ((k : Int) < 0) = false := (by simp); have k2 : decide (n ≤ k) = false := (by simp; omega); obtain ⟨b, tt, pre, post, off, gm, gs, fx⟩ := P; dsimp only at *; have hbne : b ≠ w.heap.size := (by omega); have HO : Hid (x = ⟨o, x.a, x.b, x.c, x.d⟩) := Lib.hid (by obtain ⟨q0, q1, q2, q3, q4⟩ := x; simp only at hop; rw [hop]); clear h hE hk hd hx hpc hv hop
  rw [HX.out, show x.inverse = (⟨inv o, x.a, x.b, x.c, x.d⟩ : Ins) from by rw [HO.out]; rfl]
  have hJv : (⟨inv o, x.a, x.b, x.c, x.d⟩ : Ins).valid = true := (by have := inv_valid' (x := ⟨o, x.a, x.b, x.c, x.d⟩) (by have := HXV.out; rw [HO.out] at this; exact this) (by show (0 : Int) ≤ o; omega); exact this)
  have hJs : straightB (⟨inv o, x.a, x.b, x.c, x.d⟩ : Ins).op = true := (inv_straight (o := o) (decide_eq_true (by omega)))
  obtain ⟨ee, N, hex⟩ : ∃ ee N, exec M ⟨inv o, x.a, x.b, x.c, x.d⟩ = (ee, N) := ⟨_, _, rfl⟩
  have hkeep := exec_keeps M ⟨inv o, x.a, x.b, x.c, x.d⟩
  have herr := exec_err M ⟨inv o, x.a, x.b, x.c, x.d⟩
  rw [hex] at hkeep herr
  have HEX := Lib.hid hex; have HKP := Lib.hid hkeep; have HER := Lib.hid herr; have HJV := Lib.hid hJv; have HJS := Lib.hid hJs
  clear hkeep herr hJv hJs
  by_cases hee : ee = 0
  · subst hee
    rw [after_ok hex]
    clear hex
    go_enter Tryd.func38, Tryd.ntmps38
    go_wp2_with fail
    refine (c_Valid' o x.a x.b x.c x.d (v := true) (by have := HXV.out; rw [HO.out] at this; exact this) (by omega) _ (HE.out.hT.next (by repeat' (first | (with_reducible assumption) | (with_reducible exact Below.refl _ _) | (with_reducible refine Below.alloc ?_ ?_ _) | (with_reducible refine Bk.drewN_ ?_ _) | (with_reducible refine Below.drew ?_) | (with_reducible refine Below.setCell ?_ ?_ _) | go_size)))).mono ?_; rintro e w2 ⟨rfl, hb2⟩; have hB_w2 : Below w.heap.size w w2 := Below.next (by repeat' (first | (with_reducible assumption) | (with_reducible exact Below.refl _ _) | (with_reducible refine Below.alloc ?_ ?_ _) | (with_reducible refine Bk.drewN_ ?_ _) | (with_reducible refine Below.drew ?_) | (with_reducible refine Below.setCell ?_ ?_ _) | go_size)) hb2; have K_1 : Blk w2 (w.heap.size) 24 #[.slice (some ⟨bc, oc, none⟩) n cap, .int .i64 mem, .int .i64 st] := Blk.next (by repeat' (first | with_reducible exact H_1.out | with_reducible exact K0_1 | (refine Blk.new' ?_ _ _; simp; done) | with_reducible refine Blk.alloc ?_ _ | with_reducible refine Blk.drewN ?_ _ | with_reducible refine Blk.drew ?_)) hb2; have K_2 : Blk w2 (w.heap.size + 1) 46 #[.int .u8 o, .int .i64 x.a, .int .i64 x.b, .int .i64 x.c, .int .i64 x.d] := Blk.next (by repeat' (first | with_reducible exact H_2.out | with_reducible exact K0_2 | (refine Blk.new' ?_ _ _; simp; done) | with_reducible refine Blk.alloc ?_ _ | with_reducible refine Blk.drewN ?_ _ | with_reducible refine Blk.drew ?_)) hb2; (try clear H_1); (try clear T_1); (try clear z_1); (try clear F_1); (try clear H_2); (try clear T_2); (try clear z_2); (try clear F_2); obtain ⟨z_1, T_1, F_1⟩ := K_1.open_; have H_1 := Lib.hid K_1; clear K_1; obtain ⟨z_2, T_2, F_2⟩ := K_2.open_; have H_2 := Lib.hid K_2; clear K_2; clear hb2 x0 x1 x2 x3 x4 e0 e1; have Hm2 := Lib.hid (HM.out.next hB_w2); have He2 := Lib.hid (HE.out.next hB_w2); have e0 := Hm2.out.c0; have e1 := Hm2.out.c1; have z0 := Hm2.out.frozen off; dsimp only at e0 e1 z0; rw [HD.out] at e1; rw [HPC.out] at e0
    go_wp2_with (first | (go_at_call 54; ((with_reducible refine (c_IsJump' o (v := false) (by first | decide | (unfold jumpB; simp; omega)) _).mono ?_); rintro e w' ⟨rfl, rfl⟩)) | (go_at_call 55; ((with_reducible refine (c_IsLanding' o (v := false) (by first | decide | (unfold landB; simp; omega)) _).mono ?_); rintro e w' ⟨rfl, rfl⟩)))
    refine (c_Inverse o x.a x.b x.c x.d (by omega) (by omega) _).mono ?_
    rintro e w3 ⟨rfl, hb3⟩
    have hB_w3 : Below w.heap.size w w3 := Below.next (by repeat' (first | (with_reducible assumption) | (with_reducible exact Below.refl _ _) | (with_reducible refine Below.alloc ?_ ?_ _) | (with_reducible refine Bk.drewN_ ?_ _) | (with_reducible refine Below.drew ?_) | (with_reducible refine Below.setCell ?_ ?_ _) | go_size)) hb3
    have K_2 : Blk w3 (w.heap.size + 1) 46 #[.int .u8 o, .int .i64 x.a, .int .i64 x.b, .int .i64 x.c, .int .i64 x.d] := Blk.next (by repeat' (first | with_reducible exact H_2.out | with_reducible exact K0_2 | (refine Blk.new' ?_ _ _; simp; done) | with_reducible refine Blk.alloc ?_ _ | with_reducible refine Blk.drewN ?_ _ | with_reducible refine Blk.drew ?_)) hb3; (try clear H_2); (try clear T_2); (try clear z_2); (try clear F_2); obtain ⟨z_2, T_2, F_2⟩ := K_2.open_; have H_2 := Lib.hid K_2; clear K_2
    clear hb3 T_1 z_1 F_1 H_1
    go_wp2_with fail
    refine (OnM.of (c_execute (HM.out.next (by repeat' (first | (with_reducible assumption) | (with_reducible exact Below.refl _ _) | (with_reducible refine Below.alloc ?_ ?_ _) | (with_reducible refine Bk.drewN_ ?_ _) | (with_reducible refine Below.drew ?_) | (with_reducible refine Below.setCell ?_ ?_ _) | go_size))) HB.out ⟨inv o, x.a, x.b, x.c, x.d⟩ HJS.out HJV.out) HEX.out.symm).mono ?_
    rintro e w4 ⟨rfl, hm4, hf4⟩
    have F4 : Fr (Pl.O ⟨b, tt, pre, post, off, gm, gs, fx⟩) w w4 := (Fr.of (by repeat' (first | (with_reducible assumption) | (with_reducible exact Below.refl _ _) | (with_reducible refine Below.alloc ?_ ?_ _) | (with_reducible refine Bk.drewN_ ?_ _) | (with_reducible refine Below.drew ?_) | (with_reducible refine Below.setCell ?_ ?_ _) | go_size))).trans hf4
    obtain ⟨vm4, vs4, vc4, vi4, vo4, sv4, h4⟩ := hm4
    have H4 := Lib.hid h4
    have np : N.pc = (k : Int) + 1 := by rw [HKP.out.1]; exact HPC.out
    have nd : N.dir = -1 := by rw [HKP.out.2.1]; exact HD.out
    clear e0 e1 z0
    have e0 := h4.c0; have e1 := h4.c1; have z0 := h4.frozen off
    rw [np] at e0
    rw [nd] at e1
    dsimp only at e0 e1 z0
    clear h4 hf4
    go_wp2_with fail
    go_region
    go_wp2_with fail
    go_ret
    exact OnM.mk rfl rfl (by rw [show N.pc + N.dir = (k : Int) + 1 + -1 from by rw [np, nd]]; exact (H4.out.setPc _).matE rfl) (by repeat' (first | (with_reducible exact Fr.refl _ _) | with_reducible assumption | (with_reducible refine Fr.drew ?_) | (with_reducible refine Fr.drewN ?_ _) | (with_reducible refine Fr.alloc ?_ _) | (with_reducible refine Fr.set ?_ ?_ _) | exact Or.inl rfl | exact Or.inr (Or.inl rfl) | exact Or.inr (Or.inr rfl) | (refine Fr.of ?_; assumption)))
  · rw [after_no hex hee]
    have hee' : (ee == 0) = false := by simpa using hee
    have HN : N = M := HER.out hee
    clear hex hee
    go_enter Tryd.func38, Tryd.ntmps38
    go_wp2_with fail
    refine (c_Valid' o x.a x.b x.c x.d (v := true) (by have := HXV.out; rw [HO.out] at this; exact this) (by omega) _ (HE.out.hT.next (by repeat' (first | (with_reducible assumption) | (with_reducible exact Below.refl _ _) | (with_reducible refine Below.alloc ?_ ?_ _) | (with_reducible refine Bk.drewN_ ?_ _) | (with_reducible refine Below.drew ?_) | (with_reducible refine Below.setCell ?_ ?_ _) | go_size)))).mono ?_; rintro e w2 ⟨rfl, hb2⟩; have hB_w2 : Below w.heap.size w w2 := Below.next (by repeat' (first | (with_reducible assumption) | (with_reducible exact Below.refl _ _) | (with_reducible refine Below.alloc ?_ ?_ _) | (with_reducible refine Bk.drewN_ ?_ _) | (with_reducible refine Below.drew ?_) | (with_reducible refine Below.setCell ?_ ?_ _) | go_size)) hb2; have K_1 : Blk w2 (w.heap.size) 24 #[.slice (some ⟨bc, oc, none⟩) n cap, .int .i64 mem, .int .i64 st] := Blk.next (by repeat' (first | with_reducible exact H_1.out | with_reducible exact K0_1 | (refine Blk.new' ?_ _ _; simp; done) | with_reducible refine Blk.alloc ?_ _ | with_reducible refine Blk.drewN ?_ _ | with_reducible refine Blk.drew ?_)) hb2; have K_2 : Blk w2 (w.heap.size + 1) 46 #[.int .u8 o, .int .i64 x.a, .int .i64 x.b, .int .i64 x.c, .int .i64 x.d] := Blk.next (by repeat' (first | with_reducible exact H_2.out | with_reducible exact K0_2 | (refine Blk.new' ?_ _ _; simp; done) | with_reducible refine Blk.alloc ?_ _ | with_reducible refine Blk.drewN ?_ _ | with_reducible refine Blk.drew ?_)) hb2; (try clear H_1); (try clear T_1); (try clear z_1); (try clear F_1); (try clear H_2); (try clear T_2); (try clear z_2); (try clear F_2); obtain ⟨z_1, T_1, F_1⟩ := K_1.open_; have H_1 := Lib.hid K_1; clear K_1; obtain ⟨z_2, T_2, F_2⟩ := K_2.open_; have H_2 := Lib.hid K_2; clear K_2; clear hb2 x0 x1 x2 x3 x4 e0 e1; have Hm2 := Lib.hid (HM.out.next hB_w2); have He2 := Lib.hid (HE.out.next hB_w2); have e0 := Hm2.out.c0; have e1 := Hm2.out.c1; have z0 := Hm2.out.frozen off; dsimp only at e0 e1 z0; rw [HD.out] at e1; rw [HPC.out] at e0
    go_wp2_with (first | (go_at_call 54; ((with_reducible refine (c_IsJump' o (v := false) (by first | decide | (unfold jumpB; simp; omega)) _).mono ?_); rintro e w' ⟨rfl, rfl⟩)) | (go_at_call 55; ((with_reducible refine (c_IsLanding' o (v := false) (by first | decide | (unfold landB; simp; omega)) _).mono ?_); rintro e w' ⟨rfl, rfl⟩)))
    refine (c_Inverse o x.a x.b x.c x.d (by omega) (by omega) _).mono ?_
    rintro e w3 ⟨rfl, hb3⟩
    have hB_w3 : Below w.heap.size w w3 := Below.next (by repeat' (first | (with_reducible assumption) | (with_reducible exact Below.refl _ _) | (with_reducible refine Below.alloc ?_ ?_ _) | (with_reducible refine Bk.drewN_ ?_ _) | (with_reducible refine Below.drew ?_) | (with_reducible refine Below.setCell ?_ ?_ _) | go_size)) hb3
    have K_2 : Blk w3 (w.heap.size + 1) 46 #[.int .u8 o, .int .i64 x.a, .int .i64 x.b, .int .i64 x.c, .int .i64 x.d] := Blk.next (by repeat' (first | with_reducible exact H_2.out | with_reducible exact K0_2 | (refine Blk.new' ?_ _ _; simp; done) | with_reducible refine Blk.alloc ?_ _ | with_reducible refine Blk.drewN ?_ _ | with_reducible refine Blk.drew ?_)) hb3; (try clear H_2); (try clear T_2); (try clear z_2); (try clear F_2); obtain ⟨z_2, T_2, F_2⟩ := K_2.open_; have H_2 := Lib.hid K_2; clear K_2
    clear hb3 T_1 z_1 F_1 H_1
    go_wp2_with fail
    refine (OnM.of (c_execute (HM.out.next (by repeat' (first | (with_reducible assumption) | (with_reducible exact Below.refl _ _) | (with_reducible refine Below.alloc ?_ ?_ _) | (with_reducible refine Bk.drewN_ ?_ _) | (with_reducible refine Below.drew ?_) | (with_reducible refine Below.setCell ?_ ?_ _) | go_size))) HB.out ⟨inv o, x.a, x.b, x.c, x.d⟩ HJS.out HJV.out) HEX.out.symm).mono ?_
    rintro e w4 ⟨rfl, hm4, hf4⟩
    have F4 : Fr (Pl.O ⟨b, tt, pre, post, off, gm, gs, fx⟩) w w4 := (Fr.of (by repeat' (first | (with_reducible assumption) | (with_reducible exact Below.refl _ _) | (with_reducible refine Below.alloc ?_ ?_ _) | (with_reducible refine Bk.drewN_ ?_ _) | (with_reducible refine Below.drew ?_) | (with_reducible refine Below.setCell ?_ ?_ _) | go_size))).trans hf4
    go_wp2_with fail
    go_ret
    exact ⟨rfl, HN ▸ hm4, F4⟩

set_option maxRecDepth 100000 in
set_option maxHeartbeats 4000000 in
theorem step_gobB {w : World} {P : Pl} {M : Mach} {vm vs vc vi vo : Value} {sv : List Value} (h : MOn w P M vm vs vc vi vo sv) {A : Option Addr} {n : Nat} (cap : Nat) {code : Prg} (hE : Env w P A n code) (mem st : Int) (k : Nat) (hk : k < code.length) (hd : M.dir = -1) (hpc : M.pc = (k : Int) + 1) (hv : (code.getD k default).valid = true) (hop : (code.getD k default).op = 28) (hB : MBd M) :
    Calls Tryd.prog 38 #[.agg #[.slice A n cap, .int .i64 mem, .int .i64 st], .pointer (some ⟨P.b, P.off, none⟩)] w (OnM P (after (exec M (code.getD k default).inverse) M) w) := by
  have HB := Lib.hid hB
  clear hB
  obtain ⟨bc, oc, rfl⟩ := hE.form hk; have HM := Lib.hid h; have HE := Lib.hid hE; have HK := Lib.hid hk; have hkn : k < n := (by rw [hE.hn]; exact hk); have hn6 : n ≤ 65536 := (by rw [hE.hn]; exact hE.hl); have hbc : bc < w.heap.size := (hE.hC.blk (by omega)).1; have HV0 := Lib.hid hv; have HOP0 := Lib.hid hop; obtain ⟨x, hx⟩ : ∃ x, code.getD k default = x := ⟨_, rfl⟩; have HX := Lib.hid hx; rw [hx] at hop hv; have HXV := Lib.hid hv; have HD := Lib.hid hd; have HPC := Lib.hid hpc; obtain ⟨x0, x1, x2, x3, x4⟩ := hE.at_ hk hx; rw [hop] at x0; have e0 := h.c0; have e1 := h.c1; rw [hd] at e1; rw [hpc] at e0; have hblt := h.lt; have i1 : (0 : Int) ≤ (k : Int) := (by omega); have i2 : (k : Int) < (n : Int) := (by omega); have k1 : decide ((k : Int) < 0) = false := (by simp); have k2 : decide (n ≤ k) = false := (by simp; omega); obtain ⟨b, tt, pre, post, off, gm, gs, fx⟩ := P; dsimp only at *; have hbne : b ≠ w.heap.size := (by omega); have HO : Hid (x = ⟨28, x.a, x.b, x.c, x.d⟩) := Lib.hid (by obtain ⟨q0, q1, q2, q3, q4⟩ := x; simp only at hop; rw [hop]); clear h hE hk hd hx hpc hv hop
  rw [HX.out, show x.inverse = (⟨inv 28, x.a, x.b, x.c, x.d⟩ : Ins) from by rw [HO.out]; rfl]
  have hJv : (⟨inv 28, x.a, x.b, x.c, x.d⟩ : Ins).valid = true := (by have := inv_valid' (x := ⟨28, x.a, x.b, x.c, x.d⟩) (by have := HXV.out; rw [HO.out] at this; exact this) (by show (0 : Int) ≤ 28; omega); exact this)
  have hJs : straightB (⟨inv 28, x.a, x.b, x.c, x.d⟩ : Ins).op = true := (inv_straight (o := 28) (decide_eq_true (by omega)))
  obtain ⟨ee, N, hex⟩ : ∃ ee N, exec M ⟨inv 28, x.a, x.b, x.c, x.d⟩ = (ee, N) := ⟨_, _, rfl⟩
  have hkeep := exec_keeps M ⟨inv 28, x.a, x.b, x.c, x.d⟩
  have herr := exec_err M ⟨inv 28, x.a, x.b, x.c, x.d⟩
  rw [hex] at hkeep herr
  have HEX := Lib.hid hex; have HKP := Lib.hid hkeep; have HER := Lib.hid herr; have HJV := Lib.hid hJv; have HJS := Lib.hid hJs
  clear hkeep herr hJv hJs
  by_cases hee : ee = 0
  · subst hee
    rw [after_ok hex]
    clear hex
    go_enter Tryd.func38, Tryd.ntmps38
    go_wp2_with fail
    refine (c_Valid' 28 x.a x.b x.c x.d (v := true) (by have := HXV.out; rw [HO.out] at this; exact this) (by omega) _ (HE.out.hT.next (by repeat' (first | (with_reducible assumption) | (with_reducible exact Below.refl _ _) | (with_reducible refine Below.alloc ?_ ?_ _) | (with_reducible refine Bk.drewN_ ?_ _) | (with_reducible refine Below.drew ?_) | (with_reducible refine Below.setCell ?_ ?_ _) | go_size)))).mono ?_; rintro e w2 ⟨rfl, hb2⟩; have hB_w2 : Below w.heap.size w w2 := Below.next (by repeat' (first | (with_reducible assumption) | (with_reducible exact Below.refl _ _) | (with_reducible refine Below.alloc ?_ ?_ _) | (with_reducible refine Bk.drewN_ ?_ _) | (with_reducible refine Below.drew ?_) | (with_reducible refine Below.setCell ?_ ?_ _) | go_size)) hb2; have K_1 : Blk w2 (w.heap.size) 24 #[.slice (some ⟨bc, oc, none⟩) n cap, .int .i64 mem, .int .i64 st] := Blk.next (by repeat' (first | with_reducible exact H_1.out | with_reducible exact K0_1 | (refine Blk.new' ?_ _ _; simp; done) | with_reducible refine Blk.alloc ?_ _ | with_reducible refine Blk.drewN ?_ _ | with_reducible refine Blk.drew ?_)) hb2; have K_2 : Blk w2 (w.heap.size + 1) 46 #[.int .u8 28, .int .i64 x.a, .int .i64 x.b, .int .i64 x.c, .int .i64 x.d] := Blk.next (by repeat' (first | with_reducible exact H_2.out | with_reducible exact K0_2 | (refine Blk.new' ?_ _ _; simp; done) | with_reducible refine Blk.alloc ?_ _ | with_reducible refine Blk.drewN ?_ _ | with_reducible refine Blk.drew ?_)) hb2; (try clear H_1); (try clear T_1); (try clear z_1); (try clear F_1); (try clear H_2); (try clear T_2); (try clear z_2); (try clear F_2); obtain ⟨z_1, T_1, F_1⟩ := K_1.open_; have H_1 := Lib.hid K_1; clear K_1; obtain ⟨z_2, T_2, F_2⟩ := K_2.open_; have H_2 := Lib.hid K_2; clear K_2; clear hb2 x0 x1 x2 x3 x4 e0 e1; have Hm2 := Lib.hid (HM.out.next hB_w2); have He2 := Lib.hid (HE.out.next hB_w2); have e0 := Hm2.out.c0; have e1 := Hm2.out.c1; have z0 := Hm2.out.frozen off; dsimp only at e0 e1 z0; rw [HD.out] at e1; rw [HPC.out] at e0
    go_wp2_with (first | (go_at_call 54; ((with_reducible refine (c_IsJump' 28 (v := false) (by first | decide | (unfold jumpB; simp; omega)) _).mono ?_); rintro e w' ⟨rfl, rfl⟩)) | (go_at_call 55; ((with_reducible refine (c_IsLanding' 28 (v := false) (by first | decide | (unfold landB; simp; omega)) _).mono ?_); rintro e w' ⟨rfl, rfl⟩)))
    refine (c_Inverse 28 x.a x.b x.c x.d (by omega) (by omega) _).mono ?_
    rintro e w3 ⟨rfl, hb3⟩
    have hB_w3 : Below w.heap.size w w3 := Below.next (by repeat' (first | (with_reducible assumption) | (with_reducible exact Below.refl _ _) | (with_reducible refine Below.alloc ?_ ?_ _) | (with_reducible refine Bk.drewN_ ?_ _) | (with_reducible refine Below.drew ?_) | (with_reducible refine Below.setCell ?_ ?_ _) | go_size)) hb3
    have K_2 : Blk w3 (w.heap.size + 1) 46 #[.int .u8 28, .int .i64 x.a, .int .i64 x.b, .int .i64 x.c, .int .i64 x.d] := Blk.next (by repeat' (first | with_reducible exact H_2.out | with_reducible exact K0_2 | (refine Blk.new' ?_ _ _; simp; done) | with_reducible refine Blk.alloc ?_ _ | with_reducible refine Blk.drewN ?_ _ | with_reducible refine Blk.drew ?_)) hb3; (try clear H_2); (try clear T_2); (try clear z_2); (try clear F_2); obtain ⟨z_2, T_2, F_2⟩ := K_2.open_; have H_2 := Lib.hid K_2; clear K_2
    clear hb3 T_1 z_1 F_1 H_1
    go_wp2_with fail
    refine (OnM.of (c_execute (HM.out.next (by repeat' (first | (with_reducible assumption) | (with_reducible exact Below.refl _ _) | (with_reducible refine Below.alloc ?_ ?_ _) | (with_reducible refine Bk.drewN_ ?_ _) | (with_reducible refine Below.drew ?_) | (with_reducible refine Below.setCell ?_ ?_ _) | go_size))) HB.out ⟨inv 28, x.a, x.b, x.c, x.d⟩ HJS.out HJV.out) HEX.out.symm).mono ?_
    rintro e w4 ⟨rfl, hm4, hf4⟩
    have F4 : Fr (Pl.O ⟨b, tt, pre, post, off, gm, gs, fx⟩) w w4 := (Fr.of (by repeat' (first | (with_reducible assumption) | (with_reducible exact Below.refl _ _) | (with_reducible refine Below.alloc ?_ ?_ _) | (with_reducible refine Bk.drewN_ ?_ _) | (with_reducible refine Below.drew ?_) | (with_reducible refine Below.setCell ?_ ?_ _) | go_size))).trans hf4
    obtain ⟨vm4, vs4, vc4, vi4, vo4, sv4, h4⟩ := hm4
    have H4 := Lib.hid h4
    have np : N.pc = (k : Int) + 1 := by rw [HKP.out.1]; exact HPC.out
    have nd : N.dir = -1 := by rw [HKP.out.2.1]; exact HD.out
    clear e0 e1 z0
    have e0 := h4.c0; have e1 := h4.c1; have z0 := h4.frozen off
    rw [np] at e0
    rw [nd] at e1
    dsimp only at e0 e1 z0
    clear h4 hf4
    go_wp2_with fail
    go_region
    go_wp2_with fail
    go_ret
    exact OnM.mk rfl rfl (by rw [show N.pc + N.dir = (k : Int) + 1 + -1 from by rw [np, nd]]; exact (H4.out.setPc _).matE rfl) (by repeat' (first | (with_reducible exact Fr.refl _ _) | with_reducible assumption | (with_reducible refine Fr.drew ?_) | (with_reducible refine Fr.drewN ?_ _) | (with_reducible refine Fr.alloc ?_ _) | (with_reducible refine Fr.set ?_ ?_ _) | exact Or.inl rfl | exact Or.inr (Or.inl rfl) | exact Or.inr (Or.inr rfl) | (refine Fr.of ?_; assumption)))
  · rw [after_no hex hee]
    have hee' : (ee == 0) = false := by simpa using hee
    have HN : N = M := HER.out hee
    clear hex hee
    go_enter Tryd.func38, Tryd.ntmps38
    go_wp2_with fail
    refine (c_Valid' 28 x.a x.b x.c x.d (v := true) (by have := HXV.out; rw [HO.out] at this; exact this) (by omega) _ (HE.out.hT.next (by repeat' (first | (with_reducible assumption) | (with_reducible exact Below.refl _ _) | (with_reducible refine Below.alloc ?_ ?_ _) | (with_reducible refine Bk.drewN_ ?_ _) | (with_reducible refine Below.drew ?_) | (with_reducible refine Below.setCell ?_ ?_ _) | go_size)))).mono ?_; rintro e w2 ⟨rfl, hb2⟩; have hB_w2 : Below w.heap.size w w2 := Below.next (by repeat' (first | (with_reducible assumption) | (with_reducible exact Below.refl _ _) | (with_reducible refine Below.alloc ?_ ?_ _) | (with_reducible refine Bk.drewN_ ?_ _) | (with_reducible refine Below.drew ?_) | (with_reducible refine Below.setCell ?_ ?_ _) | go_size)) hb2; have K_1 : Blk w2 (w.heap.size) 24 #[.slice (some ⟨bc, oc, none⟩) n cap, .int .i64 mem, .int .i64 st] := Blk.next (by repeat' (first | with_reducible exact H_1.out | with_reducible exact K0_1 | (refine Blk.new' ?_ _ _; simp; done) | with_reducible refine Blk.alloc ?_ _ | with_reducible refine Blk.drewN ?_ _ | with_reducible refine Blk.drew ?_)) hb2; have K_2 : Blk w2 (w.heap.size + 1) 46 #[.int .u8 28, .int .i64 x.a, .int .i64 x.b, .int .i64 x.c, .int .i64 x.d] := Blk.next (by repeat' (first | with_reducible exact H_2.out | with_reducible exact K0_2 | (refine Blk.new' ?_ _ _; simp; done) | with_reducible refine Blk.alloc ?_ _ | with_reducible refine Blk.drewN ?_ _ | with_reducible refine Blk.drew ?_)) hb2; (try clear H_1); (try clear T_1); (try clear z_1); (try clear F_1); (try clear H_2); (try clear T_2); (try clear z_2); (try clear F_2); obtain ⟨z_1, T_1, F_1⟩ := K_1.open_; have H_1 := Lib.hid K_1; clear K_1; obtain ⟨z_2, T_2, F_2⟩ := K_2.open_; have H_2 := Lib.hid K_2; clear K_2; clear hb2 x0 x1 x2 x3 x4 e0 e1; have Hm2 := Lib.hid (HM.out.next hB_w2); have He2 := Lib.hid (HE.out.next hB_w2); have e0 := Hm2.out.c0; have e1 := Hm2.out.c1; have z0 := Hm2.out.frozen off; dsimp only at e0 e1 z0; rw [HD.out] at e1; rw [HPC.out] at e0
    go_wp2_with (first | (go_at_call 54; ((with_reducible refine (c_IsJump' 28 (v := false) (by first | decide | (unfold jumpB; simp; omega)) _).mono ?_); rintro e w' ⟨rfl, rfl⟩)) | (go_at_call 55; ((with_reducible refine (c_IsLanding' 28 (v := false) (by first | decide | (unfold landB; simp; omega)) _).mono ?_); rintro e w' ⟨rfl, rfl⟩)))
    refine (c_Inverse 28 x.a x.b x.c x.d (by omega) (by omega) _).mono ?_
    rintro e w3 ⟨rfl, hb3⟩
    have hB_w3 : Below w.heap.size w w3 := Below.next (by repeat' (first | (with_reducible assumption) | (with_reducible exact Below.refl _ _) | (with_reducible refine Below.alloc ?_ ?_ _) | (with_reducible refine Bk.drewN_ ?_ _) | (with_reducible refine Below.drew ?_) | (with_reducible refine Below.setCell ?_ ?_ _) | go_size)) hb3
    have K_2 : Blk w3 (w.heap.size + 1) 46 #[.int .u8 28, .int .i64 x.a, .int .i64 x.b, .int .i64 x.c, .int .i64 x.d] := Blk.next (by repeat' (first | with_reducible exact H_2.out | with_reducible exact K0_2 | (refine Blk.new' ?_ _ _; simp; done) | with_reducible refine Blk.alloc ?_ _ | with_reducible refine Blk.drewN ?_ _ | with_reducible refine Blk.drew ?_)) hb3; (try clear H_2); (try clear T_2); (try clear z_2); (try clear F_2); obtain ⟨z_2, T_2, F_2⟩ := K_2.open_; have H_2 := Lib.hid K_2; clear K_2
    clear hb3 T_1 z_1 F_1 H_1
    go_wp2_with fail
    refine (OnM.of (c_execute (HM.out.next (by repeat' (first | (with_reducible assumption) | (with_reducible exact Below.refl _ _) | (with_reducible refine Below.alloc ?_ ?_ _) | (with_reducible refine Bk.drewN_ ?_ _) | (with_reducible refine Below.drew ?_) | (with_reducible refine Below.setCell ?_ ?_ _) | go_size))) HB.out ⟨inv 28, x.a, x.b, x.c, x.d⟩ HJS.out HJV.out) HEX.out.symm).mono ?_
    rintro e w4 ⟨rfl, hm4, hf4⟩
    have F4 : Fr (Pl.O ⟨b, tt, pre, post, off, gm, gs, fx⟩) w w4 := (Fr.of (by repeat' (first | (with_reducible assumption) | (with_reducible exact Below.refl _ _) | (with_reducible refine Below.alloc ?_ ?_ _) | (with_reducible refine Bk.drewN_ ?_ _) | (with_reducible refine Below.drew ?_) | (with_reducible refine Below.setCell ?_ ?_ _) | go_size))).trans hf4
    go_wp2_with fail
    go_ret
    exact ⟨rfl, HN ▸ hm4, F4⟩

set_option maxRecDepth 100000 in
set_option maxHeartbeats 4000000 in
theorem step_gocB {w : World} {P : Pl} {M : Mach} {vm vs vc vi vo : Value} {sv : List Value} (h : MOn w P M vm vs vc vi vo sv) {A : Option Addr} {n : Nat} (cap : Nat) {code : Prg} (hE : Env w P A n code) (mem st : Int) (k : Nat) (hk : k < code.length) (hd : M.dir = -1) (hpc : M.pc = (k : Int) + 1) (hv : (code.getD k default).valid = true) (hop : (code.getD k default).op = 29) (hB : MBd M) :
    Calls Tryd.prog 38 #[.agg #[.slice A n cap, .int .i64 mem, .int .i64 st], .pointer (some ⟨P.b, P.off, none⟩)] w (OnM P (after (exec M (code.getD k default).inverse) M) w) := by
  have HB := Lib.hid hB
  clear hB
  obtain ⟨bc, oc, rfl⟩ := hE.form hk; have HM := Lib.hid h; have HE := Lib.hid hE; have HK := Lib.hid hk; have hkn : k < n := (by rw [hE.hn]; exact hk); have hn6 : n ≤ 65536 := (by rw [hE.hn]; exact hE.hl); have hbc : bc < w.heap.size := (hE.hC.blk (by omega)).1; have HV0 := Lib.hid hv; have HOP0 := Lib.hid hop; obtain ⟨x, hx⟩ : ∃ x, code.getD k default = x := ⟨_, rfl⟩; have HX := Lib.hid hx; rw [hx] at hop hv; have HXV := Lib.hid hv; have HD := Lib.hid hd; have HPC := Lib.hid hpc; obtain ⟨x0, x1, x2, x3, x4⟩ := hE.at_ hk hx; rw [hop] at x0; have e0 := h.c0; have e1 := h.c1; rw [hd] at e1; rw [hpc] at e0; have hblt := h.lt; have i1 : (0 : Int) ≤ (k : Int) := (by omega); have i2 : (k : Int) < (n : Int) := (by omega); have k1 : decide ((k : Int) < 0) = false := (by simp); have k2 : decide (n ≤ k) = false := (by simp; omega); obtain ⟨b, tt, pre, post, off, gm, gs, fx⟩ := P; dsimp only at *; have hbne : b ≠ w.heap.size := (by omega); have HO : Hid (x = ⟨29, x.a, x.b, x.c, x.d⟩) := Lib.hid (by obtain ⟨q0, q1, q2, q3, q4⟩ := x; simp only at hop; rw [hop]); clear h hE hk hd hx hpc hv hop
  rw [HX.out, show x.inverse = (⟨inv 29, x.a, x.b, x.c, x.d⟩ : Ins) from by rw [HO.out]; rfl]
  have hJv : (⟨inv 29, x.a, x.b, x.c, x.d⟩ : Ins).valid = true := (by have := inv_valid' (x := ⟨29, x.a, x.b, x.c, x.d⟩) (by have := HXV.out; rw [HO.out] at this; exact this) (by show (0 : Int) ≤ 29; omega); exact this)
  have hJs : straightB (⟨inv 29, x.a, x.b, x.c, x.d⟩ : Ins).op = true := (inv_straight (o := 29) (decide_eq_true (by omega)))
  obtain ⟨ee, N, hex⟩ : ∃ ee N, exec M ⟨inv 29, x.a, x.b, x.c, x.d⟩ = (ee, N) := ⟨_, _, rfl⟩
  have hkeep := exec_keeps M ⟨inv 29, x.a, x.b, x.c, x.d⟩
  have herr := exec_err M ⟨inv 29, x.a, x.b, x.c, x.d⟩
  rw [hex] at hkeep herr
  have HEX := Lib.hid hex; have HKP := Lib.hid hkeep; have HER := Lib.hid herr; have HJV := Lib.hid hJv; have HJS := Lib.hid hJs
  clear hkeep herr hJv hJs
  by_cases hee : ee = 0
  · subst hee
    rw [after_ok hex]
    clear hex
    go_enter Tryd.func38, Tryd.ntmps38
    go_wp2_with fail
    refine (c_Valid' 29 x.a x.b x.c x.d (v := true) (by have := HXV.out; rw [HO.out] at this; exact this) (by omega) _ (HE.out.hT.next (by repeat' (first | (with_reducible assumption) | (with_reducible exact Below.refl _ _) | (with_reducible refine Below.alloc ?_ ?_ _) | (with_reducible refine Bk.drewN_ ?_ _) | (with_reducible refine Below.drew ?_) | (with_reducible refine Below.setCell ?_ ?_ _) | go_size)))).mono ?_; rintro e w2 ⟨rfl, hb2⟩; have hB_w2 : Below w.heap.size w w2 := Below.next (by repeat' (first | (with_reducible assumption) | (with_reducible exact Below.refl _ _) | (with_reducible refine Below.alloc ?_ ?_ _) | (with_reducible refine Bk.drewN_ ?_ _) | (with_reducible refine Below.drew ?_) | (with_reducible refine Below.setCell ?_ ?_ _) | go_size)) hb2; have K_1 : Blk w2 (w.heap.size) 24 #[.slice (some ⟨bc, oc, none⟩) n cap, .int .i64 mem, .int .i64 st] := Blk.next (by repeat' (first | with_reducible exact H_1.out | with_reducible exact K0_1 | (refine Blk.new' ?_ _ _; simp; done) | with_reducible refine Blk.alloc ?_ _ | with_reducible refine Blk.drewN ?_ _ | with_reducible refine Blk.drew ?_)) hb2; have K_2 : Blk w2 (w.heap.size + 1) 46 #[.int .u8 29, .int .i64 x.a, .int .i64 x.b, .int .i64 x.c, .int .i64 x.d] := Blk.next (by repeat' (first | with_reducible exact H_2.out | with_reducible exact K0_2 | (refine Blk.new' ?_ _ _; simp; done) | with_reducible refine Blk.alloc ?_ _ | with_reducible refine Blk.drewN ?_ _ | with_reducible refine Blk.drew ?_)) hb2; (try clear H_1); (try clear T_1); (try clear z_1); (try clear F_1); (try clear H_2); (try clear T_2); (try clear z_2); (try clear F_2); obtain ⟨z_1, T_1, F_1⟩ := K_1.open_; have H_1 := Lib.hid K_1; clear K_1; obtain ⟨z_2, T_2, F_2⟩ := K_2.open_; have H_2 := Lib.hid K_2; clear K_2; clear hb2 x0 x1 x2 x3 x4 e0 e1; have Hm2 := Lib.hid (HM.out.next hB_w2); have He2 := Lib.hid (HE.out.next hB_w2); have e0 := Hm2.out.c0; have e1 := Hm2.out.c1; have z0 := Hm2.out.frozen off; dsimp only at e0 e1 z0; rw [HD.out] at e1; rw [HPC.out] at e0
    go_wp2_with (first | (go_at_call 54; ((with_reducible refine (c_IsJump' 29 (v := false) (by first | decide | (unfold jumpB; simp; omega)) _).mono ?_); rintro e w' ⟨rfl, rfl⟩)) | (go_at_call 55; ((with_reducible refine (c_IsLanding' 29 (v := false) (by first | decide | (unfold landB; simp; omega)) _).mono ?_); rintro e w' ⟨rfl, rfl⟩)))
    refine (c_Inverse 29 x.a x.b x.c x.d (by omega) (by omega) _).mono ?_
    rintro e w3 ⟨rfl, hb3⟩
    have hB_w3 : Below w.heap.size w w3 := Below.next (by repeat' (first | (with_reducible assumption) | (with_reducible exact Below.refl _ _) | (with_reducible refine Below.alloc ?_ ?_ _) | (with_reducible refine Bk.drewN_ ?_ _) | (with_reducible refine Below.drew ?_) | (with_reducible refine Below.setCell ?_ ?_ _) | go_size)) hb3
    have K_2 : Blk w3 (w.heap.size + 1) 46 #[.int .u8 29, .int .i64 x.a, .int .i64 x.b, .int .i64 x.c, .int .i64 x.d] := Blk.next (by repeat' (first | with_reducible exact H_2.out | with_reducible exact K0_2 | (refine Blk.new' ?_ _ _; simp; done) | with_reducible refine Blk.alloc ?_ _ | with_reducible refine Blk.drewN ?_ _ | with_reducible refine Blk.drew ?_)) hb3; (try clear H_2); (try clear T_2); (try clear z_2); (try clear F_2); obtain ⟨z_2, T_2, F_2⟩ := K_2.open_; have H_2 := Lib.hid K_2; clear K_2
    clear hb3 T_1 z_1 F_1 H_1
    go_wp2_with fail
    refine (OnM.of (c_execute (HM.out.next (by repeat' (first | (with_reducible assumption) | (with_reducible exact Below.refl _ _) | (with_reducible refine Below.alloc ?_ ?_ _) | (with_reducible refine Bk.drewN_ ?_ _) | (with_reducible refine Below.drew ?_) | (with_reducible refine Below.setCell ?_ ?_ _) | go_size))) HB.out ⟨inv 29, x.a, x.b, x.c, x.d⟩ HJS.out HJV.out) HEX.out.symm).mono ?_
    rintro e w4 ⟨rfl, hm4, hf4⟩
    have F4 : Fr (Pl.O ⟨b, tt, pre, post, off, gm, gs, fx⟩) w w4 := (Fr.of (by repeat' (first | (with_reducible assumption) | (with_reducible exact Below.refl _ _) | (with_reducible refine Below.alloc ?_ ?_ _) | (with_reducible refine Bk.drewN_ ?_ _) | (with_reducible refine Below.drew ?_) | (with_reducible refine Below.setCell ?_ ?_ _) | go_size))).trans hf4
    obtain ⟨vm4, vs4, vc4, vi4, vo4, sv4, h4⟩ := hm4
    have H4 := Lib.hid h4
    have np : N.pc = (k : Int) + 1 := by rw [HKP.out.1]; exact HPC.out
    have nd : N.dir = -1 := by rw [HKP.out.2.1]; exact HD.out
    clear e0 e1 z0
    have e0 := h4.c0; have e1 := h4.c1; have z0 := h4.frozen off
    rw [np] at e0
    rw [nd] at e1
    dsimp only at e0 e1 z0
    clear h4 hf4
    go_wp2_with fail
    go_region
    go_wp2_with fail
    go_ret
    exact OnM.mk rfl rfl (by rw [show N.pc + N.dir = (k : Int) + 1 + -1 from by rw [np, nd]]; exact (H4.out.setPc _).matE rfl) (by repeat' (first | (with_reducible exact Fr.refl _ _) | with_reducible assumption | (with_reducible refine Fr.drew ?_) | (with_reducible refine Fr.drewN ?_ _) | (with_reducible refine Fr.alloc ?_ _) | (with_reducible refine Fr.set ?_ ?_ _) | exact Or.inl rfl | exact Or.inr (Or.inl rfl) | exact Or.inr (Or.inr rfl) | (refine Fr.of ?_; assumption)))
  · rw [after_no hex hee]
    have hee' : (ee == 0) = false := by simpa using hee
    have HN : N = M := HER.out hee
    clear hex hee
    go_enter Tryd.func38, Tryd.ntmps38
    go_wp2_with fail
    refine (c_Valid' 29 x.a x.b x.c x.d (v := true) (by have := HXV.out; rw [HO.out] at this; exact this) (by omega) _ (HE.out.hT.next (by repeat' (first | (with_reducible assumption) | (with_reducible exact Below.refl _ _) | (with_reducible refine Below.alloc ?_ ?_ _) | (with_reducible refine Bk.drewN_ ?_ _) | (with_reducible refine Below.drew ?_) | (with_reducible refine Below.setCell ?_ ?_ _) | go_size)))).mono ?_; rintro e w2 ⟨rfl, hb2⟩; have hB_w2 : Below w.heap.size w w2 := Below.next (by repeat' (first | (with_reducible assumption) | (with_reducible exact Below.refl _ _) | (with_reducible refine Below.alloc ?_ ?_ _) | (with_reducible refine Bk.drewN_ ?_ _) | (with_reducible refine Below.drew ?_) | (with_reducible refine Below.setCell ?_ ?_ _) | go_size)) hb2; have K_1 : Blk w2 (w.heap.size) 24 #[.slice (some ⟨bc, oc, none⟩) n cap, .int .i64 mem, .int .i64 st] := Blk.next (by repeat' (first | with_reducible exact H_1.out | with_reducible exact K0_1 | (refine Blk.new' ?_ _ _; simp; done) | with_reducible refine Blk.alloc ?_ _ | with_reducible refine Blk.drewN ?_ _ | with_reducible refine Blk.drew ?_)) hb2; have K_2 : Blk w2 (w.heap.size + 1) 46 #[.int .u8 29, .int .i64 x.a, .int .i64 x.b, .int .i64 x.c, .int .i64 x.d] := Blk.next (by repeat' (first | with_reducible exact H_2.out | with_reducible exact K0_2 | (refine Blk.new' ?_ _ _; simp; done) | with_reducible refine Blk.alloc ?_ _ | with_reducible refine Blk.drewN ?_ _ | with_reducible refine Blk.drew ?_)) hb2; (try clear H_1); (try clear T_1); (try clear z_1); (try clear F_1); (try clear H_2); (try clear T_2); (try clear z_2); (try clear F_2); obtain ⟨z_1, T_1, F_1⟩ := K_1.open_; have H_1 := Lib.hid K_1; clear K_1; obtain ⟨z_2, T_2, F_2⟩ := K_2.open_; have H_2 := Lib.hid K_2; clear K_2; clear hb2 x0 x1 x2 x3 x4 e0 e1; have Hm2 := Lib.hid (HM.out.next hB_w2); have He2 := Lib.hid (HE.out.next hB_w2); have e0 := Hm2.out.c0; have e1 := Hm2.out.c1; have z0 := Hm2.out.frozen off; dsimp only at e0 e1 z0; rw [HD.out] at e1; rw [HPC.out] at e0
    go_wp2_with (first | (go_at_call 54; ((with_reducible refine (c_IsJump' 29 (v := false) (by first | decide | (unfold jumpB; simp; omega)) _).mono ?_); rintro e w' ⟨rfl, rfl⟩)) | (go_at_call 55; ((with_reducible refine (c_IsLanding' 29 (v := false) (by first | decide | (unfold landB; simp; omega)) _).mono ?_); rintro e w' ⟨rfl, rfl⟩)))
    refine (c_Inverse 29 x.a x.b x.c x.d (by omega) (by omega) _).mono ?_
    rintro e w3 ⟨rfl, hb3⟩
    have hB_w3 : Below w.heap.size w w3 := Below.next (by repeat' (first | (with_reducible assumption) | (with_reducible exact Below.refl _ _) | (with_reducible refine Below.alloc ?_ ?_ _) | (with_reducible refine Bk.drewN_ ?_ _) | (with_reducible refine Below.drew ?_) | (with_reducible refine Below.setCell ?_ ?_ _) | go_size)) hb3
    have K_2 : Blk w3 (w.heap.size + 1) 46 #[.int .u8 29, .int .i64 x.a, .int .i64 x.b, .int .i64 x.c, .int .i64 x.d] := Blk.next (by repeat' (first | with_reducible exact H_2.out | with_reducible exact K0_2 | (refine Blk.new' ?_ _ _; simp; done) | with_reducible refine Blk.alloc ?_ _ | with_reducible refine Blk.drewN ?_ _ | with_reducible refine Blk.drew ?_)) hb3; (try clear H_2); (try clear T_2); (try clear z_2); (try clear F_2); obtain ⟨z_2, T_2, F_2⟩ := K_2.open_; have H_2 := Lib.hid K_2; clear K_2
    clear hb3 T_1 z_1 F_1 H_1
    go_wp2_with fail
    refine (OnM.of (c_execute (HM.out.next (by repeat' (first | (with_reducible assumption) | (with_reducible exact Below.refl _ _) | (with_reducible refine Below.alloc ?_ ?_ _) | (with_reducible refine Bk.drewN_ ?_ _) | (with_reducible refine Below.drew ?_) | (with_reducible refine Below.setCell ?_ ?_ _) | go_size))) HB.out ⟨inv 29, x.a, x.b, x.c, x.d⟩ HJS.out HJV.out) HEX.out.symm).mono ?_
    rintro e w4 ⟨rfl, hm4, hf4⟩
    have F4 : Fr (Pl.O ⟨b, tt, pre, post, off, gm, gs, fx⟩) w w4 := (Fr.of (by repeat' (first | (with_reducible assumption) | (with_reducible exact Below.refl _ _) | (with_reducible refine Below.alloc ?_ ?_ _) | (with_reducible refine Bk.drewN_ ?_ _) | (with_reducible refine Below.drew ?_) | (with_reducible refine Below.setCell ?_ ?_ _) | go_size))).trans hf4
    go_wp2_with fail
    go_ret
    exact ⟨rfl, HN ▸ hm4, F4⟩
end Go.Proofs.YtmccbgnonmgbeaaDoor

/- The walks of package cpu: step joined; fits, where it holds. -/
set_option linter.unusedVariables false
namespace Go.Proofs.YtmccbgnonmgbeaaDoor
open Go.RowKit Bk

theorem c_step {w : World} {P : Pl} {M : Mach} {vm vs vc vi vo : Value} {sv : List Value} (h : MOn w P M vm vs vc vi vo sv) {A : Option Addr} {n : Nat} (cap : Nat) (im : Img) (hE : Env w P A n im.code) (hv : im.check.2 = 0) (hf : Fit im M) (hB : MBd M) :
    Calls Tryd.prog 38 #[.agg #[.slice A n cap, .int .i64 im.mem, .int .i64 im.stacks], .pointer (some ⟨P.b, P.off, none⟩)] w (OnM P (Bk.step im.code M) w) := by
  have p0 := hf.p0
  have p1 := hf.p1
  by_cases hin : nextAt M < 0 ∨ (im.code.length : Int) ≤ nextAt M
  · rw [step_eq, if_pos hin]
    rcases hf.d with hd | hd
    · unfold nextAt at hin
      rw [hd, if_neg (by omega)] at hin
      exact step_outF h cap hE _ _ p0 p1 hd (by omega)
    · unfold nextAt at hin
      rw [hd, if_pos (by omega)] at hin
      exact step_outB h cap hE _ _ p0 p1 hd (by omega)
  obtain ⟨k, hk⟩ := nat_of (show 0 ≤ nextAt M by omega)
  have hkl : k < im.code.length := by omega
  have hff := fault_facts ((check_fault hv).2 k hkl)
  have hval := hff.1
  have h0 := hE.hw.op0 k
  have h35 : (im.code.getD k default).op < 35 := by
    unfold Ins.valid validB at hval
    simp only [Bool.and_eq_true, decide_eq_true_eq] at hval
    exact hval.1.1
  have hcl := hf.cl
  have hcs := hf.cs
  have hpc : (M.dir = 1 ∧ M.pc = (k : Int)) ∨ (M.dir = -1 ∧ M.pc = (k : Int) + 1) := by
    unfold nextAt at hk
    rcases hf.d with e | e
    · rw [e, if_neg (by omega)] at hk; exact .inl ⟨e, hk⟩
    · rw [e, if_pos (by omega)] at hk; exact .inr ⟨e, by omega⟩
  by_cases o34 : (im.code.getD k default).op = 34
  · refine OnM.of (x := (4, M)) ?_ (by rw [step_eq, if_neg hin, hk, Int.toNat_natCast, if_pos o34])
    rcases hpc with ⟨e1, e2⟩ | ⟨e1, e2⟩
    · exact step_haltF h cap hE _ _ k hkl e1 e2 hval o34
    · exact step_haltB h cap hE _ _ k hkl e1 e2 hval o34
  rw [step_in k hk hkl o34 hval]
  by_cases oc : (im.code.getD k default).op = 30 ∨ (im.code.getD k default).op = 31
  · rw [if_pos oc]
    rcases hpc with ⟨e1, e2⟩ | ⟨e1, e2⟩ <;> rcases oc with oc | oc
    · exact step_call30F h cap hE _ _ k hkl e1 e2 hval oc hcl
    · exact step_call31F h cap hE _ _ k hkl e1 e2 hval oc hcl
    · exact step_call30B h cap hE _ _ k hkl e1 e2 hval oc hcl
    · exact step_call31B h cap hE _ _ k hkl e1 e2 hval oc hcl
  rw [if_neg oc]
  by_cases orr : (im.code.getD k default).op = 32 ∨ (im.code.getD k default).op = 33
  · rw [if_pos orr]
    rcases hpc with ⟨e1, e2⟩ | ⟨e1, e2⟩ <;> rcases orr with oc | oc
    · exact step_ret32F h cap hE _ _ k hkl e1 e2 hval oc hcl hcs
    · exact step_ret33F h cap hE _ _ k hkl e1 e2 hval oc hcl hcs
    · exact step_ret32B h cap hE _ _ k hkl e1 e2 hval oc hcl hcs
    · exact step_ret33B h cap hE _ _ k hkl e1 e2 hval oc hcl hcs
  rw [if_neg orr]
  by_cases oj : 22 ≤ (im.code.getD k default).op ∧ (im.code.getD k default).op ≤ 27
  · rw [if_pos (ctl_iff.2 oj)]
    have e : (im.code.getD k default).op = 22 ∨ (im.code.getD k default).op = 23 ∨ (im.code.getD k default).op = 24 ∨ (im.code.getD k default).op = 25 ∨ (im.code.getD k default).op = 26 ∨ (im.code.getD k default).op = 27 := by omega
    rcases hpc with ⟨e1, e2⟩ | ⟨e1, e2⟩ <;> rcases e with e | e | e | e | e | e
    · exact step_jump22F h cap hE _ _ k hkl e1 e2 hval e
    · exact step_jump23F h cap hE _ _ k hkl e1 e2 hval e
    · exact step_jump24F h cap hE _ _ k hkl e1 e2 hval e
    · exact step_jump25F h cap hE _ _ k hkl e1 e2 hval e
    · exact step_jump26F h cap hE _ _ k hkl e1 e2 hval e
    · exact step_jump27F h cap hE _ _ k hkl e1 e2 hval e
    · exact step_jump22B h cap hE _ _ k hkl e1 e2 hval e
    · exact step_jump23B h cap hE _ _ k hkl e1 e2 hval e
    · exact step_jump24B h cap hE _ _ k hkl e1 e2 hval e
    · exact step_jump25B h cap hE _ _ k hkl e1 e2 hval e
    · exact step_jump26B h cap hE _ _ k hkl e1 e2 hval e
    · exact step_jump27B h cap hE _ _ k hkl e1 e2 hval e
  rw [if_neg (fun g => oj (ctl_iff.1 g))]
  show Calls _ _ _ _ (OnM P (after (exec M (if M.dir < 0 then (im.code.getD k default).inverse else im.code.getD k default)) M) w)
  rcases hpc with ⟨e1, e2⟩ | ⟨e1, e2⟩
  · rw [show (if M.dir < 0 then (im.code.getD k default).inverse else im.code.getD k default) = im.code.getD k default from if_neg (by omega)]
    by_cases e28 : (im.code.getD k default).op = 28
    · exact step_gobF h cap hE _ _ k hkl e1 e2 hval e28 hB
    by_cases e29 : (im.code.getD k default).op = 29
    · exact step_gocF h cap hE _ _ k hkl e1 e2 hval e29 hB
    · exact step_goaF (im.code.getD k default).op h cap hE _ _ k hkl e1 e2 hval rfl h0 (by omega) hB
  · rw [show (if M.dir < 0 then (im.code.getD k default).inverse else im.code.getD k default) = (im.code.getD k default).inverse from if_pos (by omega)]
    by_cases e28 : (im.code.getD k default).op = 28
    · exact step_gobB h cap hE _ _ k hkl e1 e2 hval e28 hB
    by_cases e29 : (im.code.getD k default).op = 29
    · exact step_gocB h cap hE _ _ k hkl e1 e2 hval e29 hB
    · exact step_goaB (im.code.getD k default).op h cap hE _ _ k hkl e1 e2 hval rfl h0 (by omega) hB

end Go.Proofs.YtmccbgnonmgbeaaDoor
