/- The walks of package cpu: step joined; fits, where it holds. -/
import Derived.Test.YtfpcblgkcbfdoaaDoorCpP
import Derived.Test.YtfpcblgkcbfdoaaDoorCpS
set_option linter.unusedVariables false
set_option linter.unusedSimpArgs false
set_option maxRecDepth 100000
namespace Go.Proofs.YtfpcblgkcbfdoaaDoor
open Go.RowKit Bk

theorem c_step {w : World} {P : Pl} {M : Mach} {vm vs vc vi vo : Value} {sv : List Value} (h : MOn w P M vm vs vc vi vo sv) {A : Option Addr} {n : Nat} (cap : Nat) (im : Img) (hE : Env w P A n im.code) (hv : im.check.2 = 0) (hf : Fit im M) (hB : MBd M) :
    Calls Tryd.prog 42 #[.agg #[.slice A n cap, .int .i64 im.mem, .int .i64 im.stacks], .pointer (some ⟨P.b, P.off, none⟩)] w (OnM P (Bk.step im.code M) w) := by
  have p0 := hf.p0
  have p1 := hf.p1
  by_cases hin : nextAt M < 0 ∨ (im.code.length : Int) ≤ nextAt M
  · rw [step_eq, if_pos hin]
    rcases hf.d with hd | hd
    · unfold nextAt at hin
      rw [hd, if_neg (by omega)] at hin
      exact step_outF h cap hE _ _ p0 p1 hd (by omega)
    · unfold nextAt at hin
      rw [hd, if_pos (by omega)] at hin
      exact step_outB h cap hE _ _ p0 p1 hd (by omega)
  obtain ⟨k, hk⟩ := nat_of (show 0 ≤ nextAt M by omega)
  have hkl : k < im.code.length := by omega
  have hff := fault_facts ((check_fault hv).2 k hkl)
  have hval := hff.1
  have h0 := hE.hw.op0 k
  have h35 : (im.code.getD k default).op < 35 := by
    unfold Ins.valid validB at hval
    simp only [Bool.and_eq_true, decide_eq_true_eq] at hval
    exact hval.1.1
  have hcl := hf.cl
  have hcs := hf.cs
  have hpc : (M.dir = 1 ∧ M.pc = (k : Int)) ∨ (M.dir = -1 ∧ M.pc = (k : Int) + 1) := by
    unfold nextAt at hk
    rcases hf.d with e | e
    · rw [e, if_neg (by omega)] at hk; exact .inl ⟨e, hk⟩
    · rw [e, if_pos (by omega)] at hk; exact .inr ⟨e, by omega⟩
  by_cases o34 : (im.code.getD k default).op = 34
  · refine OnM.of (x := (4, M)) ?_ (by rw [step_eq, if_neg hin, hk, Int.toNat_natCast, if_pos o34])
    rcases hpc with ⟨e1, e2⟩ | ⟨e1, e2⟩
    · exact step_haltF h cap hE _ _ k hkl e1 e2 hval o34
    · exact step_haltB h cap hE _ _ k hkl e1 e2 hval o34
  rw [step_in k hk hkl o34 hval]
  by_cases oc : (im.code.getD k default).op = 30 ∨ (im.code.getD k default).op = 31
  · rw [if_pos oc]
    rcases hpc with ⟨e1, e2⟩ | ⟨e1, e2⟩ <;> rcases oc with oc | oc
    · exact step_call30F h cap hE _ _ k hkl e1 e2 hval oc hcl
    · exact step_call31F h cap hE _ _ k hkl e1 e2 hval oc hcl
    · exact step_call30B h cap hE _ _ k hkl e1 e2 hval oc hcl
    · exact step_call31B h cap hE _ _ k hkl e1 e2 hval oc hcl
  rw [if_neg oc]
  by_cases orr : (im.code.getD k default).op = 32 ∨ (im.code.getD k default).op = 33
  · rw [if_pos orr]
    rcases hpc with ⟨e1, e2⟩ | ⟨e1, e2⟩ <;> rcases orr with oc | oc
    · exact step_ret32F h cap hE _ _ k hkl e1 e2 hval oc hcl hcs
    · exact step_ret33F h cap hE _ _ k hkl e1 e2 hval oc hcl hcs
    · exact step_ret32B h cap hE _ _ k hkl e1 e2 hval oc hcl hcs
    · exact step_ret33B h cap hE _ _ k hkl e1 e2 hval oc hcl hcs
  rw [if_neg orr]
  by_cases oj : 22 ≤ (im.code.getD k default).op ∧ (im.code.getD k default).op ≤ 27
  · rw [if_pos (ctl_iff.2 oj)]
    have e : (im.code.getD k default).op = 22 ∨ (im.code.getD k default).op = 23 ∨ (im.code.getD k default).op = 24 ∨ (im.code.getD k default).op = 25 ∨ (im.code.getD k default).op = 26 ∨ (im.code.getD k default).op = 27 := by omega
    rcases hpc with ⟨e1, e2⟩ | ⟨e1, e2⟩ <;> rcases e with e | e | e | e | e | e
    · exact step_jump22F h cap hE _ _ k hkl e1 e2 hval e
    · exact step_jump23F h cap hE _ _ k hkl e1 e2 hval e
    · exact step_jump24F h cap hE _ _ k hkl e1 e2 hval e
    · exact step_jump25F h cap hE _ _ k hkl e1 e2 hval e
    · exact step_jump26F h cap hE _ _ k hkl e1 e2 hval e
    · exact step_jump27F h cap hE _ _ k hkl e1 e2 hval e
    · exact step_jump22B h cap hE _ _ k hkl e1 e2 hval e
    · exact step_jump23B h cap hE _ _ k hkl e1 e2 hval e
    · exact step_jump24B h cap hE _ _ k hkl e1 e2 hval e
    · exact step_jump25B h cap hE _ _ k hkl e1 e2 hval e
    · exact step_jump26B h cap hE _ _ k hkl e1 e2 hval e
    · exact step_jump27B h cap hE _ _ k hkl e1 e2 hval e
  rw [if_neg (fun g => oj (ctl_iff.1 g))]
  show Calls _ _ _ _ (OnM P (after (exec M (if M.dir < 0 then (im.code.getD k default).inverse else im.code.getD k default)) M) w)
  rcases hpc with ⟨e1, e2⟩ | ⟨e1, e2⟩
  · rw [show (if M.dir < 0 then (im.code.getD k default).inverse else im.code.getD k default) = im.code.getD k default from if_neg (by omega)]
    by_cases e28 : (im.code.getD k default).op = 28
    · exact step_gobF h cap hE _ _ k hkl e1 e2 hval e28 hB
    by_cases e29 : (im.code.getD k default).op = 29
    · exact step_gocF h cap hE _ _ k hkl e1 e2 hval e29 hB
    · exact step_goaF (im.code.getD k default).op h cap hE _ _ k hkl e1 e2 hval rfl h0 (by omega) hB
  · rw [show (if M.dir < 0 then (im.code.getD k default).inverse else im.code.getD k default) = (im.code.getD k default).inverse from if_pos (by omega)]
    by_cases e28 : (im.code.getD k default).op = 28
    · exact step_gobB h cap hE _ _ k hkl e1 e2 hval e28 hB
    by_cases e29 : (im.code.getD k default).op = 29
    · exact step_gocB h cap hE _ _ k hkl e1 e2 hval e29 hB
    · exact step_goaB (im.code.getD k default).op h cap hE _ _ k hkl e1 e2 hval rfl h0 (by omega) hB

end Go.Proofs.YtfpcblgkcbfdoaaDoor
