/- The walk of cpu.step: jumps, landings. -/
import Derived.Test.YteenmpjjaheggaaDoorCpK
set_option linter.unusedVariables false
set_option linter.unusedSimpArgs false
set_option maxRecDepth 100000
namespace Go.Proofs.YteenmpjjaheggaaDoor
open Go.RowKit Bk
variable {w : World} {D : Nat → Prop} {P : Pl} {M : Mach} {vm vs vc vi vo : Value} {sv : List Value}
def ErrB (M : Mach) (x : Int × Mach) : Prop := x.1 ≠ 0 → x.2 = M
theorem ErrB.ite {M : Mach} {c : Prop} [Decidable c] {a b : Int × Mach} (h : ErrB M a) (h' : ErrB M b) : ErrB M (if c then a else b) := by
  split <;> assumption
theorem ErrB.self (M : Mach) (e : Int) : ErrB M (e, M) := fun _ => rfl
theorem ErrB.ok (M N : Mach) : ErrB M (0, N) := fun h => absurd rfl h
theorem exec_err (M : Mach) (i : Ins) : ErrB M (exec M i) := by
  have ex : ∀ r a, ErrB M (exchange M r a) := fun r a => by unfold exchange; exact ErrB.ite (ErrB.self _ _) (ErrB.ok _ _)
  have sh : ∀ r a, ErrB M (shift M r a) := fun r a => by unfold shift; exact ErrB.ite (ErrB.self _ _) (ErrB.ok _ _)
  have sw : ∀ r a, ErrB M (swapS M r a) := fun r a => by unfold swapS; exact ErrB.ite (ErrB.self _ _) (ErrB.ite (ErrB.self _ _) (ErrB.ite (ErrB.self _ _) (ErrB.ok _ _)))
  have sk : ErrB M (stack M i) := by
    unfold stack
    exact ErrB.ite (ErrB.self _ _) (ErrB.ite (ErrB.ok _ _) (ErrB.ite (ErrB.ite (ErrB.self _ _) (ErrB.ok _ _)) (ErrB.ite (ErrB.self _ _) (ErrB.ite (ErrB.ok _ _) (ErrB.ite (ErrB.self _ _) (ErrB.ok _ _))))))
  have tr : ErrB M (transfer M i) := by
    unfold transfer
    exact ErrB.ite (ErrB.self _ _) (ErrB.ite (ErrB.self _ _) (ErrB.ite (ErrB.self _ _) (ErrB.ite (ErrB.ok _ _) (ErrB.ite (ErrB.ok _ _) (ErrB.ite (ErrB.ok _ _) (ErrB.ok _ _))))))
  unfold exec
  exact ErrB.ite (ErrB.ok _ _) (ErrB.ite (ErrB.ok _ _) (ErrB.ite (ErrB.ok _ _) (ErrB.ite (ErrB.ok _ _) (ErrB.ite (ErrB.ok _ _) (ErrB.ite (ErrB.ok _ _) (ErrB.ite (ErrB.ok _ _) (ErrB.ite (ErrB.ok _ _) (ErrB.ite (ErrB.ok _ _)
    (ErrB.ite (ErrB.ite (ErrB.self _ _) (ErrB.ok _ _)) (ErrB.ite (ErrB.ite (ErrB.self _ _) (ErrB.self _ _)) (ErrB.ite (ex _ _) (ErrB.ite (ErrB.ite (ErrB.self _ _) (ex _ _)) (ErrB.ite (sh _ _) (ErrB.ite (sh _ _) (ErrB.ite (sw _ _) (ErrB.ite sk tr))))))))))))))))
theorem step_jump (h : MOn w P M vm vs vc vi vo sv) {A : Option Addr} {n : Nat} (cap : Nat) {code : Prg} (hE : Env w P A n code) (mem st : Int) (k : Nat) (hk : k < code.length) (hdp : (M.dir = 1 ∧ M.pc = (k : Int)) ∨ (M.dir = -1 ∧ M.pc = (k : Int) + 1)) (hv : (code.getD k default).valid = true) (o : Int) (hop : (code.getD k default).op = o) (ho : 22 ≤ o ∧ o ≤ 27) :
    Calls Tryd.prog 57 #[.agg #[.slice A n cap, .int .i64 mem, .int .i64 st], .pointer (some ⟨P.b, P.off, none⟩)] w (OnM P (jump code M k) w) := by
  have q34 : (o == 34) = false := by rw [beq_eq_false_iff_ne]; omega
  have q30 : (o == 30) = false := by rw [beq_eq_false_iff_ne]; omega
  have q31 : (o == 31) = false := by rw [beq_eq_false_iff_ne]; omega
  have q32 : (o == 32) = false := by rw [beq_eq_false_iff_ne]; omega
  have q33 : (o == 33) = false := by rw [beq_eq_false_iff_ne]; omega
  obtain ⟨o0, o1⟩ := ho
  obtain ⟨bc, oc, rfl⟩ := hE.form hk
  have HM := Lib.hid h; have HE := Lib.hid hE; have HK := Lib.hid hk
  have hkn : k < n := by rw [hE.hn]; exact hk
  have hn6 : n ≤ 65536 := by rw [hE.hn]; exact hE.hl
  have hbc : bc < w.heap.size := (hE.hC.blk (by omega)).1
  have HV0 := Lib.hid hv; have HOP0 := Lib.hid hop
  obtain ⟨x, hx⟩ : ∃ x, code.getD k default = x := ⟨_, rfl⟩
  have HX := Lib.hid hx
  rw [hx] at hop hv
  have HXV := Lib.hid hv
  obtain ⟨x0, x1, x2, x3, x4⟩ := hE.at_ hk hx
  rw [hop] at x0
  have e0 := h.c0; have e1 := h.c1; have hblt := h.lt
  have i1 : (0 : Int) ≤ (k : Int) := by omega
  have i2 : (k : Int) < (n : Int) := by omega
  have k1 : decide ((k : Int) < 0) = false := by simp
  have k2 : decide (n ≤ k) = false := by simp; omega
  obtain ⟨b, tt, pre, post, off, gm, gs, fx⟩ := P
  dsimp only at *
  have hbne : b ≠ w.heap.size := by omega
  have HO : Hid (x = ⟨o, x.a, x.b, x.c, x.d⟩) := Lib.hid (by obtain ⟨q0, q1, q2, q3, q4⟩ := x; simp only at hop; rw [hop])
  clear h hE hk hx hv hop
  rcases hdp with ⟨hd, hpc⟩ | ⟨hd, hpc⟩
  all_goals
    rw [hd] at e1
    rw [hpc] at e0
    have HD := Lib.hid hd; have HPC := Lib.hid hpc
    clear hd hpc
    go_enter Tryd.func57, Tryd.ntmps57
    go_wp2_with fail
    refine (c_Valid' o x.a x.b x.c x.d (v := true) (by have := HXV.out; rw [HO.out] at this; exact this) (by omega) _ (HE.out.hT.next (by go_grown))).mono ?_
    rintro e w2 ⟨rfl, hb2⟩
    have hB_w2 : Below w.heap.size w w2 := Below.next (by go_grown) hb2
    have K_1 : Blk w2 (w.heap.size) 32 #[.slice (some ⟨bc, oc, none⟩) n cap, .int .i64 mem, .int .i64 st] := Blk.next (by repeat' (first | with_reducible exact H_1.out | with_reducible exact K0_1 | (refine Blk.new' ?_ _ _; simp; done) | with_reducible refine Blk.alloc ?_ _ | with_reducible refine Blk.drewN ?_ _ | with_reducible refine Blk.drew ?_)) hb2; have K_2 : Blk w2 (w.heap.size + 1) 68 #[.int .u8 o, .int .i64 x.a, .int .i64 x.b, .int .i64 x.c, .int .i64 x.d] := Blk.next (by repeat' (first | with_reducible exact H_2.out | with_reducible exact K0_2 | (refine Blk.new' ?_ _ _; simp; done) | with_reducible refine Blk.alloc ?_ _ | with_reducible refine Blk.drewN ?_ _ | with_reducible refine Blk.drew ?_)) hb2; (try clear H_1); (try clear T_1); (try clear z_1); (try clear F_1); (try clear H_2); (try clear T_2); (try clear z_2); (try clear F_2); obtain ⟨z_1, T_1, F_1⟩ := K_1.open_; have H_1 := Lib.hid K_1; clear K_1; obtain ⟨z_2, T_2, F_2⟩ := K_2.open_; have H_2 := Lib.hid K_2; clear K_2
    clear hb2 x0 x1 x2 x3 x4 e0 e1
    have Hm2 := Lib.hid (HM.out.next hB_w2); have He2 := Lib.hid (HE.out.next hB_w2)
    have e0 := Hm2.out.c0; have e1 := Hm2.out.c1; have z0 := Hm2.out.frozen off
    dsimp only at e0 e1 z0
    rw [HD.out] at e1
    rw [HPC.out] at e0
    rcases Int.lt_or_le 24 o with hj | hj
    · go_wp2_with (first | (go_at_call 63; ((with_reducible refine (c_IsJump' o (v := false) (by unfold jumpB; simp; omega) _).mono ?_); rintro e w' ⟨rfl, rfl⟩)) | (go_at_call 64; ((with_reducible refine (c_IsLanding' o (v := true) (by unfold landB; simp; omega) _).mono ?_); rintro e w' ⟨rfl, rfl⟩)))
      refine (c_jump Hm2.out cap He2.out mem st k HK.out (by first | exact .inl HD.out | exact .inr HD.out) HV0.out).mono ?_
      rintro e w3 ⟨rfl, hm3, hf3⟩
      go_wp2_with fail
      go_ret
      exact ⟨rfl, hm3, (Fr.of hB_w2).trans hf3⟩
    · go_wp2_with (first | (go_at_call 63; ((with_reducible refine (c_IsJump' o (v := true) (by unfold jumpB; simp; omega) _).mono ?_); rintro e w' ⟨rfl, rfl⟩)) | (go_at_call 64; ((with_reducible refine (c_IsLanding' o (v := true) (by unfold landB; simp; omega) _).mono ?_); rintro e w' ⟨rfl, rfl⟩)))
      refine (c_jump Hm2.out cap He2.out mem st k HK.out (by first | exact .inl HD.out | exact .inr HD.out) HV0.out).mono ?_
      rintro e w3 ⟨rfl, hm3, hf3⟩
      go_wp2_with fail
      go_ret
      exact ⟨rfl, hm3, (Fr.of hB_w2).trans hf3⟩
end Go.Proofs.YteenmpjjaheggaaDoor
