/- Several texts in one: CpuR CpuS2. -/
import Derived.Test.YtbijhlgdilkopaaGreatDoorCpK
set_option linter.unusedVariables false
set_option linter.unusedSimpArgs false
/- The walk of cpu.step: jumps, landings. -/
set_option maxRecDepth 100000
set_option linter.unusedVariables false
set_option linter.unusedSimpArgs false
namespace Go.Proofs.YtbijhlgdilkopaaGreatDoor
open Go.RowKit Bk
variable {w : World} {D : Nat → Prop} {P : Pl} {M : Mach} {vm vs vc vi vo : Value} {sv : List Value}
def ErrB (M : Mach) (x : Int × Mach) : Prop := x.1 ≠ 0 → x.2 = M
theorem ErrB.ite {M : Mach} {c : Prop} [Decidable c] {a b : Int × Mach} (h : ErrB M a) (h' : ErrB M b) : ErrB M (if c then a else b) := by
  split <;> assumption
theorem ErrB.self (M : Mach) (e : Int) : ErrB M (e, M) := fun _ => rfl
theorem ErrB.ok (M N : Mach) : ErrB M (0, N) := fun h => absurd rfl h
theorem exec_err (M : Mach) (i : Ins) : ErrB M (exec M i) := by
  have ex : ∀ r a, ErrB M (exchange M r a) := fun r a => by unfold exchange; exact ErrB.ite (ErrB.self _ _) (ErrB.ok _ _)
  have sh : ∀ r a, ErrB M (shift M r a) := fun r a => by unfold shift; exact ErrB.ite (ErrB.self _ _) (ErrB.ok _ _)
  have sw : ∀ r a, ErrB M (swapS M r a) := fun r a => by unfold swapS; exact ErrB.ite (ErrB.self _ _) (ErrB.ite (ErrB.self _ _) (ErrB.ite (ErrB.self _ _) (ErrB.ok _ _)))
  have sk : ErrB M (stack M i) := by
    unfold stack
    exact ErrB.ite (ErrB.self _ _) (ErrB.ite (ErrB.ok _ _) (ErrB.ite (ErrB.ite (ErrB.self _ _) (ErrB.ok _ _)) (ErrB.ite (ErrB.self _ _) (ErrB.ite (ErrB.ok _ _) (ErrB.ite (ErrB.self _ _) (ErrB.ok _ _))))))
  have tr : ErrB M (transfer M i) := by
    unfold transfer
    exact ErrB.ite (ErrB.self _ _) (ErrB.ite (ErrB.self _ _) (ErrB.ite (ErrB.self _ _) (ErrB.ite (ErrB.ok _ _) (ErrB.ite (ErrB.ok _ _) (ErrB.ite (ErrB.ok _ _) (ErrB.ok _ _))))))
  unfold exec
  exact ErrB.ite (ErrB.ok _ _) (ErrB.ite (ErrB.ok _ _) (ErrB.ite (ErrB.ok _ _) (ErrB.ite (ErrB.ok _ _) (ErrB.ite (ErrB.ok _ _) (ErrB.ite (ErrB.ok _ _) (ErrB.ite (ErrB.ok _ _) (ErrB.ite (ErrB.ok _ _) (ErrB.ite (ErrB.ok _ _)
    (ErrB.ite (ErrB.ite (ErrB.self _ _) (ErrB.ok _ _)) (ErrB.ite (ErrB.ite (ErrB.self _ _) (ErrB.self _ _)) (ErrB.ite (ex _ _) (ErrB.ite (ErrB.ite (ErrB.self _ _) (ex _ _)) (ErrB.ite (sh _ _) (ErrB.ite (sh _ _) (ErrB.ite (sw _ _) (ErrB.ite sk tr))))))))))))))))
theorem step_jump (h : MOn w P M vm vs vc vi vo sv) {A : Option Addr} {n : Nat} (cap : Nat) {code : Prg} (hE : Env w P A n code) (mem st : Int) (k : Nat) (hk : k < code.length) (hdp : (M.dir = 1 ∧ M.pc = (k : Int)) ∨ (M.dir = -1 ∧ M.pc = (k : Int) + 1)) (hv : (code.getD k default).valid = true) (o : Int) (hop : (code.getD k default).op = o) (ho : 22 ≤ o ∧ o ≤ 27) :
    Calls Tryz.prog 54 #[.agg #[.slice A n cap, .int .i64 mem, .int .i64 st], .pointer (some ⟨P.b, P.off, none⟩)] w (OnM P (jump code M k) w) := by
  have q34 : (o == 34) = false := by rw [beq_eq_false_iff_ne]; omega
  have q30 : (o == 30) = false := by rw [beq_eq_false_iff_ne]; omega
  have q31 : (o == 31) = false := by rw [beq_eq_false_iff_ne]; omega
  have q32 : (o == 32) = false := by rw [beq_eq_false_iff_ne]; omega
  have q33 : (o == 33) = false := by rw [beq_eq_false_iff_ne]; omega
  obtain ⟨o0, o1⟩ := ho
  obtain ⟨bc, oc, rfl⟩ := hE.form hk
  have HM := Lib.hid h; have HE := Lib.hid hE; have HK := Lib.hid hk
  have hkn : k < n := by rw [hE.hn]; exact hk
  have hn6 : n ≤ 65536 := by rw [hE.hn]; exact hE.hl
  have hbc : bc < w.heap.size := (hE.hC.blk (by omega)).1
  have HV0 := Lib.hid hv; have HOP0 := Lib.hid hop
  obtain ⟨x, hx⟩ : ∃ x, code.getD k default = x := ⟨_, rfl⟩
  have HX := Lib.hid hx
  rw [hx] at hop hv
  have HXV := Lib.hid hv
  obtain ⟨x0, x1, x2, x3, x4⟩ := hE.at_ hk hx
  rw [hop] at x0
  have e0 := h.c0; have e1 := h.c1; have hblt := h.lt
  have i1 : (0 : Int) ≤ (k : Int) := by omega
  have i2 : (k : Int) < (n : Int) := by omega
  have k1 : decide ((k : Int) < 0) = false := by simp
  have k2 : decide (n ≤ k) = false := by simp; omega
  obtain ⟨b, tt, pre, post, off, gm, gs, fx⟩ := P
  dsimp only at *
  have hbne : b ≠ w.heap.size := by omega
  have HO : Hid (x = ⟨o, x.a, x.b, x.c, x.d⟩) := Lib.hid (by obtain ⟨q0, q1, q2, q3, q4⟩ := x; simp only at hop; rw [hop])
  clear h hE hk hx hv hop
  rcases hdp with ⟨hd, hpc⟩ | ⟨hd, hpc⟩
  all_goals
    rw [hd] at e1
    rw [hpc] at e0
    have HD := Lib.hid hd; have HPC := Lib.hid hpc
    clear hd hpc
    go_enter Tryz.func54, Tryz.ntmps54
    go_wp2_with fail
    refine (c_Valid' o x.a x.b x.c x.d (v := true) (by have := HXV.out; rw [HO.out] at this; exact this) (by omega) _ (HE.out.hT.next (by go_grown))).mono ?_
    rintro e w2 ⟨rfl, hb2⟩
    have hB_w2 : Below w.heap.size w w2 := Below.next (by go_grown) hb2
    have K_1 : Blk w2 (w.heap.size) 82 #[.slice (some ⟨bc, oc, none⟩) n cap, .int .i64 mem, .int .i64 st] := Blk.next (by repeat' (first | with_reducible exact H_1.out | with_reducible exact K0_1 | (refine Blk.new' ?_ _ _; simp; done) | with_reducible refine Blk.alloc ?_ _ | with_reducible refine Blk.drewN ?_ _ | with_reducible refine Blk.drew ?_)) hb2; have K_2 : Blk w2 (w.heap.size + 1) 102 #[.int .u8 o, .int .i64 x.a, .int .i64 x.b, .int .i64 x.c, .int .i64 x.d] := Blk.next (by repeat' (first | with_reducible exact H_2.out | with_reducible exact K0_2 | (refine Blk.new' ?_ _ _; simp; done) | with_reducible refine Blk.alloc ?_ _ | with_reducible refine Blk.drewN ?_ _ | with_reducible refine Blk.drew ?_)) hb2; (try clear H_1); (try clear T_1); (try clear z_1); (try clear F_1); (try clear H_2); (try clear T_2); (try clear z_2); (try clear F_2); obtain ⟨z_1, T_1, F_1⟩ := K_1.open_; have H_1 := Lib.hid K_1; clear K_1; obtain ⟨z_2, T_2, F_2⟩ := K_2.open_; have H_2 := Lib.hid K_2; clear K_2
    clear hb2 x0 x1 x2 x3 x4 e0 e1
    have Hm2 := Lib.hid (HM.out.next hB_w2); have He2 := Lib.hid (HE.out.next hB_w2)
    have e0 := Hm2.out.c0; have e1 := Hm2.out.c1; have z0 := Hm2.out.frozen off
    dsimp only at e0 e1 z0
    rw [HD.out] at e1
    rw [HPC.out] at e0
    rcases Int.lt_or_le 24 o with hj | hj
    · go_wp2_with (first | (go_at_call 72; ((with_reducible refine (c_IsJump' o (v := false) (by unfold jumpB; simp; omega) _).mono ?_); rintro e w' ⟨rfl, rfl⟩)) | (go_at_call 73; ((with_reducible refine (c_IsLanding' o (v := true) (by unfold landB; simp; omega) _).mono ?_); rintro e w' ⟨rfl, rfl⟩)))
      refine (c_jump Hm2.out cap He2.out mem st k HK.out (by first | exact .inl HD.out | exact .inr HD.out) HV0.out).mono ?_
      rintro e w3 ⟨rfl, hm3, hf3⟩
      go_wp2_with fail
      go_ret
      exact ⟨rfl, hm3, (Fr.of hB_w2).trans hf3⟩
    · go_wp2_with (first | (go_at_call 72; ((with_reducible refine (c_IsJump' o (v := true) (by unfold jumpB; simp; omega) _).mono ?_); rintro e w' ⟨rfl, rfl⟩)) | (go_at_call 73; ((with_reducible refine (c_IsLanding' o (v := true) (by unfold landB; simp; omega) _).mono ?_); rintro e w' ⟨rfl, rfl⟩)))
      refine (c_jump Hm2.out cap He2.out mem st k HK.out (by first | exact .inl HD.out | exact .inr HD.out) HV0.out).mono ?_
      rintro e w3 ⟨rfl, hm3, hf3⟩
      go_wp2_with fail
      go_ret
      exact ⟨rfl, hm3, (Fr.of hB_w2).trans hf3⟩
end Go.Proofs.YtbijhlgdilkopaaGreatDoor

/- The walk of cpu.step: instructions that are followed by the next one. -/
set_option maxRecDepth 100000
set_option linter.unusedVariables false
set_option linter.unusedSimpArgs false
namespace Go.Proofs.YtbijhlgdilkopaaGreatDoor
open Go.RowKit Bk
variable {w : World} {D : Nat → Prop} {P : Pl} {M : Mach} {vm vs vc vi vo : Value} {sv : List Value}
/-- What a step comes to behind the instruction. -/
def after (x : Int × Mach) (M : Mach) : Int × Mach := if x.1 = 0 then (0, { x.2 with pc := x.2.pc + x.2.dir }) else (x.1, M)
theorem after_ok {x : Int × Mach} {M N : Mach} (h : x = (0, N)) : after x M = (0, { N with pc := N.pc + N.dir }) := by subst h; rfl
theorem after_no {x : Int × Mach} {M N : Mach} {e : Int} (h : x = (e, N)) (he : e ≠ 0) : after x M = (e, M) := by subst h; unfold after; rw [if_neg he]
theorem step_goF (h : MOn w P M vm vs vc vi vo sv) {A : Option Addr} {n : Nat} (cap : Nat) {code : Prg} (hE : Env w P A n code) (mem st : Int) (k : Nat) (hk : k < code.length) (hd : M.dir = 1) (hpc : M.pc = (k : Int)) (hv : (code.getD k default).valid = true) (o : Int) (hop : (code.getD k default).op = o) (o0 : 0 ≤ o) (o1 : o ≤ 21 ∨ o = 28 ∨ o = 29) (hB : MBd M) :
    Calls Tryz.prog 54 #[.agg #[.slice A n cap, .int .i64 mem, .int .i64 st], .pointer (some ⟨P.b, P.off, none⟩)] w (OnM P (after (exec M (code.getD k default)) M) w) := by
  have HB := Lib.hid hB
  clear hB
  have q34 : (o == 34) = false := by rw [beq_eq_false_iff_ne]; omega
  have q30 : (o == 30) = false := by rw [beq_eq_false_iff_ne]; omega
  have q31 : (o == 31) = false := by rw [beq_eq_false_iff_ne]; omega
  have q32 : (o == 32) = false := by rw [beq_eq_false_iff_ne]; omega
  have q33 : (o == 33) = false := by rw [beq_eq_false_iff_ne]; omega
  have HO1 := Lib.hid o1
  obtain ⟨bc, oc, rfl⟩ := hE.form hk
  have HM := Lib.hid h; have HE := Lib.hid hE; have HK := Lib.hid hk
  have hkn : k < n := by rw [hE.hn]; exact hk
  have hn6 : n ≤ 65536 := by rw [hE.hn]; exact hE.hl
  have hbc : bc < w.heap.size := (hE.hC.blk (by omega)).1
  have HV0 := Lib.hid hv; have HOP0 := Lib.hid hop
  obtain ⟨x, hx⟩ : ∃ x, code.getD k default = x := ⟨_, rfl⟩
  have HX := Lib.hid hx
  rw [hx] at hop hv
  have HXV := Lib.hid hv
  obtain ⟨x0, x1, x2, x3, x4⟩ := hE.at_ hk hx
  rw [hop] at x0
  have e0 := h.c0; have e1 := h.c1; have hblt := h.lt
  have i1 : (0 : Int) ≤ (k : Int) := by omega
  have i2 : (k : Int) < (n : Int) := by omega
  have k1 : decide ((k : Int) < 0) = false := by simp
  have k2 : decide (n ≤ k) = false := by simp; omega
  obtain ⟨b, tt, pre, post, off, gm, gs, fx⟩ := P
  dsimp only at *
  have hbne : b ≠ w.heap.size := by omega
  have HO : Hid (x = ⟨o, x.a, x.b, x.c, x.d⟩) := Lib.hid (by obtain ⟨q0, q1, q2, q3, q4⟩ := x; simp only at hop; rw [hop])
  clear h hE hk hx hv hop
  rw [hd] at e1
  rw [hpc] at e0
  have HD := Lib.hid hd; have HPC := Lib.hid hpc
  clear hd hpc
  rw [HX.out, show x = (⟨o, x.a, x.b, x.c, x.d⟩ : Ins) from by rw [HO.out]]
  have hJv : (⟨o, x.a, x.b, x.c, x.d⟩ : Ins).valid = true := (by have := HXV.out; rw [HO.out] at this; exact this)
  have hJs : straightB (⟨o, x.a, x.b, x.c, x.d⟩ : Ins).op = true := (decide_eq_true (by show 0 ≤ o ∧ o ≤ 21 ∨ o = 28 ∨ o = 29; omega))
  obtain ⟨ee, N, hex⟩ : ∃ ee N, exec M ⟨o, x.a, x.b, x.c, x.d⟩ = (ee, N) := ⟨_, _, rfl⟩
  have hkeep := exec_keeps M ⟨o, x.a, x.b, x.c, x.d⟩
  have herr := exec_err M ⟨o, x.a, x.b, x.c, x.d⟩
  rw [hex] at hkeep herr
  have HEX := Lib.hid hex; have HKP := Lib.hid hkeep; have HER := Lib.hid herr; have HJV := Lib.hid hJv; have HJS := Lib.hid hJs
  obtain ⟨y, hy⟩ : ∃ y, after (exec M ⟨o, x.a, x.b, x.c, x.d⟩) M = y := ⟨_, rfl⟩
  rw [hy]
  have HY := Lib.hid hy
  clear hkeep herr hJv hJs hex hy
  go_enter Tryz.func54, Tryz.ntmps54
  go_wp2_with fail
  refine (c_Valid' o x.a x.b x.c x.d (v := true) (by have := HXV.out; rw [HO.out] at this; exact this) (by omega) _ (HE.out.hT.next (by go_grown))).mono ?_
  rintro e w2 ⟨rfl, hb2⟩
  have hB_w2 : Below w.heap.size w w2 := Below.next (by go_grown) hb2
  have K_1 : Blk w2 (w.heap.size) 82 #[.slice (some ⟨bc, oc, none⟩) n cap, .int .i64 mem, .int .i64 st] := Blk.next (by repeat' (first | with_reducible exact H_1.out | with_reducible exact K0_1 | (refine Blk.new' ?_ _ _; simp; done) | with_reducible refine Blk.alloc ?_ _ | with_reducible refine Blk.drewN ?_ _ | with_reducible refine Blk.drew ?_)) hb2; have K_2 : Blk w2 (w.heap.size + 1) 102 #[.int .u8 o, .int .i64 x.a, .int .i64 x.b, .int .i64 x.c, .int .i64 x.d] := Blk.next (by repeat' (first | with_reducible exact H_2.out | with_reducible exact K0_2 | (refine Blk.new' ?_ _ _; simp; done) | with_reducible refine Blk.alloc ?_ _ | with_reducible refine Blk.drewN ?_ _ | with_reducible refine Blk.drew ?_)) hb2; (try clear H_1); (try clear T_1); (try clear z_1); (try clear F_1); (try clear H_2); (try clear T_2); (try clear z_2); (try clear F_2); obtain ⟨z_1, T_1, F_1⟩ := K_1.open_; have H_1 := Lib.hid K_1; clear K_1; obtain ⟨z_2, T_2, F_2⟩ := K_2.open_; have H_2 := Lib.hid K_2; clear K_2
  clear hb2 x0 x1 x2 x3 x4 e0 e1
  have Hm2 := Lib.hid (HM.out.next hB_w2); have He2 := Lib.hid (HE.out.next hB_w2)
  have e0 := Hm2.out.c0; have e1 := Hm2.out.c1; have z0 := Hm2.out.frozen off
  dsimp only at e0 e1 z0
  rw [HD.out] at e1
  rw [HPC.out] at e0
  have hj1 : jumpB o = false := by unfold jumpB; simp; omega
  have hj2 : landB o = false := by unfold landB; simp; omega
  clear o1
  go_wp2_with (first | (go_at_call 72; ((with_reducible refine (c_IsJump' o (v := false) hj1 _).mono ?_); rintro e w' ⟨rfl, rfl⟩)) | (go_at_call 73; ((with_reducible refine (c_IsLanding' o (v := false) hj2 _).mono ?_); rintro e w' ⟨rfl, rfl⟩)))
  refine (OnM.of (c_execute (HM.out.next (by go_grown)) HB.out ⟨o, x.a, x.b, x.c, x.d⟩ HJS.out HJV.out) HEX.out.symm).mono ?_
  rintro e w4 ⟨rfl, hm4, hf4⟩
  have F4 : Fr (Pl.O ⟨b, tt, pre, post, off, gm, gs, fx⟩) w w4 := (Fr.of (by go_grown)).trans hf4
  by_cases hee : ee = 0
  · subst hee
    obtain ⟨vm4, vs4, vc4, vi4, vo4, sv4, h4⟩ := hm4
    have H4 := Lib.hid h4
    have np : N.pc = (k : Int) := by rw [HKP.out.1]; exact HPC.out
    have nd : N.dir = 1 := by rw [HKP.out.2.1]; exact HD.out
    clear e0 e1 z0
    have e0 := h4.c0; have e1 := h4.c1; have z0 := h4.frozen off
    rw [np] at e0
    rw [nd] at e1
    dsimp only at e0 e1 z0
    clear h4 hf4
    go_wp2_with fail
    go_region
    go_wp2_with fail
    go_ret
    exact OnM.mk (HY.out.symm.trans (after_ok HEX.out)) rfl (by rw [show N.pc + N.dir = (k : Int) + 1 from by rw [np, nd]]; exact (H4.out.setPc _).matE rfl) (by repeat' (first | with_reducible (first | assumption | apply Fr.refl | apply Fr.drew | apply Fr.drewN | apply Fr.alloc | apply Fr.set) | exact .inl rfl | exact .inr (.inl rfl) | exact .inr (.inr rfl) | (apply Fr.of; assumption)))
  · have hee' : (ee == 0) = false := by simpa using hee
    have HN : N = M := HER.out hee
    have HEE := Lib.hid hee
    clear hee
    go_wp2_with fail
    go_ret
    exact OnM.mk (HY.out.symm.trans (after_no HEX.out HEE.out)) rfl (HN ▸ hm4) F4
theorem step_goB (h : MOn w P M vm vs vc vi vo sv) {A : Option Addr} {n : Nat} (cap : Nat) {code : Prg} (hE : Env w P A n code) (mem st : Int) (k : Nat) (hk : k < code.length) (hd : M.dir = -1) (hpc : M.pc = (k : Int) + 1) (hv : (code.getD k default).valid = true) (o : Int) (hop : (code.getD k default).op = o) (o0 : 0 ≤ o) (o1 : o ≤ 21 ∨ o = 28 ∨ o = 29) (hB : MBd M) :
    Calls Tryz.prog 54 #[.agg #[.slice A n cap, .int .i64 mem, .int .i64 st], .pointer (some ⟨P.b, P.off, none⟩)] w (OnM P (after (exec M (code.getD k default).inverse) M) w) := by
  have HB := Lib.hid hB
  clear hB
  have q34 : (o == 34) = false := by rw [beq_eq_false_iff_ne]; omega
  have q30 : (o == 30) = false := by rw [beq_eq_false_iff_ne]; omega
  have q31 : (o == 31) = false := by rw [beq_eq_false_iff_ne]; omega
  have q32 : (o == 32) = false := by rw [beq_eq_false_iff_ne]; omega
  have q33 : (o == 33) = false := by rw [beq_eq_false_iff_ne]; omega
  have HO1 := Lib.hid o1
  obtain ⟨bc, oc, rfl⟩ := hE.form hk
  have HM := Lib.hid h; have HE := Lib.hid hE; have HK := Lib.hid hk
  have hkn : k < n := by rw [hE.hn]; exact hk
  have hn6 : n ≤ 65536 := by rw [hE.hn]; exact hE.hl
  have hbc : bc < w.heap.size := (hE.hC.blk (by omega)).1
  have HV0 := Lib.hid hv; have HOP0 := Lib.hid hop
  obtain ⟨x, hx⟩ : ∃ x, code.getD k default = x := ⟨_, rfl⟩
  have HX := Lib.hid hx
  rw [hx] at hop hv
  have HXV := Lib.hid hv
  obtain ⟨x0, x1, x2, x3, x4⟩ := hE.at_ hk hx
  rw [hop] at x0
  have e0 := h.c0; have e1 := h.c1; have hblt := h.lt
  have i1 : (0 : Int) ≤ (k : Int) := by omega
  have i2 : (k : Int) < (n : Int) := by omega
  have k1 : decide ((k : Int) < 0) = false := by simp
  have k2 : decide (n ≤ k) = false := by simp; omega
  obtain ⟨b, tt, pre, post, off, gm, gs, fx⟩ := P
  dsimp only at *
  have hbne : b ≠ w.heap.size := by omega
  have HO : Hid (x = ⟨o, x.a, x.b, x.c, x.d⟩) := Lib.hid (by obtain ⟨q0, q1, q2, q3, q4⟩ := x; simp only at hop; rw [hop])
  clear h hE hk hx hv hop
  rw [hd] at e1
  rw [hpc] at e0
  have HD := Lib.hid hd; have HPC := Lib.hid hpc
  clear hd hpc
  rw [HX.out, show x.inverse = (⟨inv o, x.a, x.b, x.c, x.d⟩ : Ins) from by rw [HO.out]; rfl]
  have hJv : (⟨inv o, x.a, x.b, x.c, x.d⟩ : Ins).valid = true := (by have := inv_valid' (x := ⟨o, x.a, x.b, x.c, x.d⟩) (by have := HXV.out; rw [HO.out] at this; exact this) (by show (0 : Int) ≤ o; omega); exact this)
  have hJs : straightB (⟨inv o, x.a, x.b, x.c, x.d⟩ : Ins).op = true := (inv_straight (o := o) (decide_eq_true (by omega)))
  obtain ⟨ee, N, hex⟩ : ∃ ee N, exec M ⟨inv o, x.a, x.b, x.c, x.d⟩ = (ee, N) := ⟨_, _, rfl⟩
  have hkeep := exec_keeps M ⟨inv o, x.a, x.b, x.c, x.d⟩
  have herr := exec_err M ⟨inv o, x.a, x.b, x.c, x.d⟩
  rw [hex] at hkeep herr
  have HEX := Lib.hid hex; have HKP := Lib.hid hkeep; have HER := Lib.hid herr; have HJV := Lib.hid hJv; have HJS := Lib.hid hJs
  obtain ⟨y, hy⟩ : ∃ y, after (exec M ⟨inv o, x.a, x.b, x.c, x.d⟩) M = y := ⟨_, rfl⟩
  rw [hy]
  have HY := Lib.hid hy
  clear hkeep herr hJv hJs hex hy
  go_enter Tryz.func54, Tryz.ntmps54
  go_wp2_with fail
  refine (c_Valid' o x.a x.b x.c x.d (v := true) (by have := HXV.out; rw [HO.out] at this; exact this) (by omega) _ (HE.out.hT.next (by go_grown))).mono ?_
  rintro e w2 ⟨rfl, hb2⟩
  have hB_w2 : Below w.heap.size w w2 := Below.next (by go_grown) hb2
  have K_1 : Blk w2 (w.heap.size) 82 #[.slice (some ⟨bc, oc, none⟩) n cap, .int .i64 mem, .int .i64 st] := Blk.next (by repeat' (first | with_reducible exact H_1.out | with_reducible exact K0_1 | (refine Blk.new' ?_ _ _; simp; done) | with_reducible refine Blk.alloc ?_ _ | with_reducible refine Blk.drewN ?_ _ | with_reducible refine Blk.drew ?_)) hb2; have K_2 : Blk w2 (w.heap.size + 1) 102 #[.int .u8 o, .int .i64 x.a, .int .i64 x.b, .int .i64 x.c, .int .i64 x.d] := Blk.next (by repeat' (first | with_reducible exact H_2.out | with_reducible exact K0_2 | (refine Blk.new' ?_ _ _; simp; done) | with_reducible refine Blk.alloc ?_ _ | with_reducible refine Blk.drewN ?_ _ | with_reducible refine Blk.drew ?_)) hb2; (try clear H_1); (try clear T_1); (try clear z_1); (try clear F_1); (try clear H_2); (try clear T_2); (try clear z_2); (try clear F_2); obtain ⟨z_1, T_1, F_1⟩ := K_1.open_; have H_1 := Lib.hid K_1; clear K_1; obtain ⟨z_2, T_2, F_2⟩ := K_2.open_; have H_2 := Lib.hid K_2; clear K_2
  clear hb2 x0 x1 x2 x3 x4 e0 e1
  have Hm2 := Lib.hid (HM.out.next hB_w2); have He2 := Lib.hid (HE.out.next hB_w2)
  have e0 := Hm2.out.c0; have e1 := Hm2.out.c1; have z0 := Hm2.out.frozen off
  dsimp only at e0 e1 z0
  rw [HD.out] at e1
  rw [HPC.out] at e0
  have hj1 : jumpB o = false := by unfold jumpB; simp; omega
  have hj2 : landB o = false := by unfold landB; simp; omega
  clear o1
  go_wp2_with (first | (go_at_call 72; ((with_reducible refine (c_IsJump' o (v := false) hj1 _).mono ?_); rintro e w' ⟨rfl, rfl⟩)) | (go_at_call 73; ((with_reducible refine (c_IsLanding' o (v := false) hj2 _).mono ?_); rintro e w' ⟨rfl, rfl⟩)))
  refine (c_Inverse o x.a x.b x.c x.d (by have := HO1.out; omega) (by have := HO1.out; omega) _).mono ?_
  rintro e w3 ⟨rfl, hb3⟩
  have hB_w3 : Below w.heap.size w w3 := Below.next (by go_grown) hb3
  have K_2 := H_2.out.next hb3; (try clear H_2); (try clear T_2); (try clear z_2); (try clear F_2); obtain ⟨z_2, T_2, F_2⟩ := K_2.open_; have H_2 := Lib.hid K_2; clear K_2
  clear hb3 T_1 z_1 F_1 H_1
  go_wp2_with fail
  refine (OnM.of (c_execute (HM.out.next (by go_grown)) HB.out ⟨inv o, x.a, x.b, x.c, x.d⟩ HJS.out HJV.out) HEX.out.symm).mono ?_
  rintro e w4 ⟨rfl, hm4, hf4⟩
  have F4 : Fr (Pl.O ⟨b, tt, pre, post, off, gm, gs, fx⟩) w w4 := (Fr.of (by go_grown)).trans hf4
  by_cases hee : ee = 0
  · subst hee
    obtain ⟨vm4, vs4, vc4, vi4, vo4, sv4, h4⟩ := hm4
    have H4 := Lib.hid h4
    have np : N.pc = (k : Int) + 1 := by rw [HKP.out.1]; exact HPC.out
    have nd : N.dir = -1 := by rw [HKP.out.2.1]; exact HD.out
    clear e0 e1 z0
    have e0 := h4.c0; have e1 := h4.c1; have z0 := h4.frozen off
    rw [np] at e0
    rw [nd] at e1
    dsimp only at e0 e1 z0
    clear h4 hf4
    go_wp2_with fail
    go_region
    go_wp2_with fail
    go_ret
    exact OnM.mk (HY.out.symm.trans (after_ok HEX.out)) rfl (by rw [show N.pc + N.dir = (k : Int) + 1 + -1 from by rw [np, nd]]; exact (H4.out.setPc _).matE rfl) (by repeat' (first | with_reducible (first | assumption | apply Fr.refl | apply Fr.drew | apply Fr.drewN | apply Fr.alloc | apply Fr.set) | exact .inl rfl | exact .inr (.inl rfl) | exact .inr (.inr rfl) | (apply Fr.of; assumption)))
  · have hee' : (ee == 0) = false := by simpa using hee
    have HN : N = M := HER.out hee
    have HEE := Lib.hid hee
    clear hee
    go_wp2_with fail
    go_ret
    exact OnM.mk (HY.out.symm.trans (after_no HEX.out HEE.out)) rfl (HN ▸ hm4) F4
end Go.Proofs.YtbijhlgdilkopaaGreatDoor
