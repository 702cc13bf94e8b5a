/- The walks of package cpu: step joined; fits, where it holds. -/
import Derived.Test.YteenmpjjaheggaaDoorCpP
import Derived.Test.YteenmpjjaheggaaDoorCpS
set_option linter.unusedVariables false
set_option linter.unusedSimpArgs false
set_option maxRecDepth 100000
namespace Go.Proofs.YteenmpjjaheggaaDoor
open Go.RowKit Bk
variable {w : World} {D : Nat → Prop} {P : Pl} {M : Mach} {vm vs vc vi vo : Value} {sv : List Value}

theorem c_step (h : MOn w P M vm vs vc vi vo sv) {A : Option Addr} {n : Nat} (cap : Nat) (im : Img) (hE : Env w P A n im.code) (hv : im.check.2 = 0) (hf : Fit im M) (hB : MBd M) :
    Calls Tryd.prog 57 #[.agg #[.slice A n cap, .int .i64 im.mem, .int .i64 im.stacks], .pointer (some ⟨P.b, P.off, none⟩)] w (OnM P (Bk.step im.code M) w) := by
  have p0 := hf.p0
  have p1 := hf.p1
  by_cases hin : nextAt M < 0 ∨ (im.code.length : Int) ≤ nextAt M
  · rw [step_eq, if_pos hin]
    rcases hf.d with hd | hd
    · unfold nextAt at hin
      rw [hd, if_neg (by omega)] at hin
      exact step_outF h cap hE _ _ p0 p1 hd (by omega)
    · unfold nextAt at hin
      rw [hd, if_pos (by omega)] at hin
      exact step_outB h cap hE _ _ p0 p1 hd (by omega)
  obtain ⟨k, hk⟩ := nat_of (show 0 ≤ nextAt M by omega)
  have hkl : k < im.code.length := by omega
  have hff := fault_facts ((check_fault hv).2 k hkl)
  have hval := hff.1
  have h0 := hE.hw.op0 k
  have h35 : (im.code.getD k default).op < 35 := by
    unfold Ins.valid validB at hval
    simp only [Bool.and_eq_true, decide_eq_true_eq] at hval
    exact hval.1.1
  have hcl := hf.cl
  have hcs := hf.cs
  have hpc : (M.dir = 1 ∧ M.pc = (k : Int)) ∨ (M.dir = -1 ∧ M.pc = (k : Int) + 1) := by
    unfold nextAt at hk
    rcases hf.d with e | e
    · rw [e, if_neg (by omega)] at hk; exact .inl ⟨e, hk⟩
    · rw [e, if_pos (by omega)] at hk; exact .inr ⟨e, by omega⟩
  by_cases o34 : (im.code.getD k default).op = 34
  · exact OnM.of (x := (4, M)) (step_halt h cap hE _ _ k hkl hpc hval _ rfl o34) (by rw [step_eq, if_neg hin, hk, Int.toNat_natCast, if_pos o34])
  rw [step_in k hk hkl o34 hval]
  by_cases oc : (im.code.getD k default).op = 30 ∨ (im.code.getD k default).op = 31
  · rw [if_pos oc]
    exact step_call h cap hE _ _ k hkl hpc hval _ rfl oc hcl
  rw [if_neg oc]
  by_cases orr : (im.code.getD k default).op = 32 ∨ (im.code.getD k default).op = 33
  · rw [if_pos orr]
    exact step_ret h cap hE _ _ k hkl hpc hval _ rfl orr hcl hcs
  rw [if_neg orr]
  by_cases oj : 22 ≤ (im.code.getD k default).op ∧ (im.code.getD k default).op ≤ 27
  · rw [if_pos (ctl_iff.2 oj)]
    exact step_jump h cap hE _ _ k hkl hpc hval _ rfl oj
  rw [if_neg (fun g => oj (ctl_iff.1 g))]
  show Calls _ _ _ _ (OnM P (after (exec M (if M.dir < 0 then (im.code.getD k default).inverse else im.code.getD k default)) M) w)
  rcases hpc with ⟨e1, e2⟩ | ⟨e1, e2⟩
  · rw [show (if M.dir < 0 then (im.code.getD k default).inverse else im.code.getD k default) = im.code.getD k default from if_neg (by omega)]
    exact step_goF h cap hE _ _ k hkl e1 e2 hval _ rfl h0 (by omega) hB
  · rw [show (if M.dir < 0 then (im.code.getD k default).inverse else im.code.getD k default) = (im.code.getD k default).inverse from if_pos (by omega)]
    exact step_goB h cap hE _ _ k hkl e1 e2 hval _ rfl h0 (by omega) hB
end Go.Proofs.YteenmpjjaheggaaDoor
